/-
  Part 45 of the proof.
-/
import Derived.Test.YtelkmeiepliecaaGreatDoorU43
set_option linter.unusedSimpArgs false
set_option linter.unusedVariables false
set_option maxHeartbeats 16000000
namespace Go.Proofs.YtelkmeiepliecaaGreatDoor
open Pm
theorem Sb.fnn:∀ {xs ys ys':List ByteArray} {r t t':Bool} {bs:List (List ByteArray×Bool)},Sb xs r bs ys t→Sb xs r bs ys' t'→ys=ys'∧t=t'
 | [],ys,ys',false,t,t',bs,h,k=>by
  obtain ⟨_,rfl,rfl⟩:=h
  obtain ⟨_,rfl,rfl⟩:=k
  exact ⟨rfl,rfl⟩
 | [],ys,ys',true,t,t',bs,h,k=>by
  obtain ⟨rfl,_⟩:=h
  obtain ⟨e,_⟩:=k
  simp only [List.cons.injEq,Prod.mk.injEq,and_true] at e
  exact e
 | x::xs,ys,ys',r,t,t',bs,h,k=>by
  cases hs:stB x with
  | true =>
   rw [Sb.star hs] at h k
   obtain ⟨z,bs',zs,rfl,_,rfl,h2⟩:=h
   obtain ⟨z2,bs2,zs2,e,_,rfl,k2⟩:=k
   simp only [List.cons.injEq,Prod.mk.injEq,and_true] at e
   obtain ⟨rfl,rfl⟩:=e
   obtain ⟨rfl,rfl⟩:=Sb.fnn h2 k2
   exact ⟨rfl,rfl⟩
  | false =>
   rw [Sb.lit hs] at h k
   obtain ⟨zs,rfl,h2⟩:=h
   obtain ⟨zs2,rfl,k2⟩:=k
   obtain ⟨rfl,rfl⟩:=Sb.fnn h2 k2
   exact ⟨rfl,rfl⟩
theorem Sb.many:∀ {xs ys:List ByteArray} {r t:Bool} {bs:List (List ByteArray×Bool)},Sb xs r bs ys t→bs.length=countB stB xs+(if r=true then 1 else 0)
 | [],ys,false,t,bs,h=>by
  obtain ⟨rfl,_,_⟩:=h
  rfl
 | [],ys,true,t,bs,h=>by
  obtain ⟨rfl,_⟩:=h
  rfl
 | x::xs,ys,r,t,bs,h=>by
  cases hs:stB x with
  | true =>
   rw [Sb.star hs] at h
   obtain ⟨z,bs',zs,rfl,_,rfl,h2⟩:=h
   have:=Sb.many h2
   rw [cnt_star hs,List.length_cons,this]
   omega
  | false =>
   rw [Sb.lit hs] at h
   obtain ⟨zs,rfl,h2⟩:=h
   rw [cnt_lit hs]
   exact Sb.many h2
theorem Sb.parts:∀ {xs ys:List ByteArray} {r t:Bool} {bs:List (List ByteArray×Bool)},Sb xs r bs ys t→(∀ x∈xs,partB x=true)→∀ y∈ys,partB y=true
 | [],ys,false,t,bs,h,hp=>by
  obtain ⟨_,rfl,_⟩:=h
  intro y hy;cases hy
 | [],ys,true,t,bs,h,hp=>h.2.2
 | x::xs,ys,r,t,bs,h,hp=>by
  cases hs:stB x with
  | true =>
   rw [Sb.star hs] at h
   obtain ⟨z,bs',zs,rfl,hz,rfl,h2⟩:=h
   intro y hy
   rcases List.mem_cons.1 hy with rfl|hy
   ·exact (sub_part (hp x List.mem_cons_self) hs hz).1
   ·exact Sb.parts h2 (fun x hx=>hp x (List.mem_cons_of_mem _ hx)) y hy
  | false =>
   rw [Sb.lit hs] at h
   obtain ⟨zs,rfl,h2⟩:=h
   intro y hy
   rcases List.mem_cons.1 hy with rfl|hy
   ·exact hp _ List.mem_cons_self
   ·exact Sb.parts h2 (fun x hx=>hp x (List.mem_cons_of_mem _ hx)) y hy
def SB2:List (List ByteArray×Bool)→List (List ByteArray×Bool)→List (List ByteArray×Bool)→Prop
 | [],cs,ds=>cs=[]∧ds=[]
 | p::bs,cs,ds=>∃ c1 c2 ys t ds',cs=c1++c2∧Sb p.1 p.2 c1 ys t∧ds=(ys,t)::ds'∧SB2 bs c2 ds'
theorem SB2.fn:∀ {bs cs ds ds':List (List ByteArray×Bool)},SB2 bs cs ds→SB2 bs cs ds'→ds=ds'
 | [],cs,ds,ds',h,k=>by
  obtain ⟨_,rfl⟩:=h
  obtain ⟨_,rfl⟩:=k
  rfl
 | p::bs,cs,ds,ds',h,k=>by
  obtain ⟨c1,c2,ys,t,es,rfl,h1,rfl,h2⟩:=h
  obtain ⟨k1,k2,ys',t',es',e,g1,rfl,g2⟩:=k
  have hl:c1.length=k1.length:=(Sb.many h1).trans (Sb.many g1).symm
  obtain ⟨rfl,rfl⟩:=List.append_inj e hl
  obtain ⟨rfl,rfl⟩:=Sb.fnn h1 g1
  rw [SB2.fn h2 g2]
theorem sb_one_star {z z':ByteArray} (hs:stB z=true) (hz:partB z'=true):Sb [z] false [([z'],false)] [z'++tlB z] false :=
 (Sb.star hs).2 ⟨z',[],[],rfl,hz,rfl,rfl,rfl,rfl⟩
theorem sb_one_lit {z:ByteArray} (hs:stB z=false):Sb [z] false [] [z] false:=(Sb.lit hs).2 ⟨[],rfl,rfl,rfl,rfl⟩
theorem Sb.comp2:∀ {xs ys zs:List ByteArray} {r t u:Bool} {bs cs:List (List ByteArray×Bool)},Sb xs r bs ys t→Sb ys t cs zs u→∃ ds,SB2 bs cs ds∧Sb xs r ds zs u
 | [],ys,zs,false,t,u,bs,cs,h,k=>by
  obtain ⟨rfl,rfl,rfl⟩:=h
  obtain ⟨rfl,rfl,rfl⟩:=k
  exact ⟨[],⟨rfl,rfl⟩,rfl,rfl,rfl⟩
 | [],ys,zs,true,t,u,bs,cs,h,k=>by
  obtain ⟨rfl,h1,h2⟩:=h
  refine ⟨[(zs,u)],⟨cs,[],zs,u,[],(by simp),k,rfl,rfl,rfl⟩,rfl,fun e=>?_,Sb.parts k h2⟩
  subst e
  cases ys with
  | nil =>
   obtain rfl:=h1 rfl
   obtain ⟨_,k1,_⟩:=k
   exact k1 rfl
  | cons y ys =>
   exfalso
   cases hs:stB y with
   | true =>
    rw [Sb.star hs] at k
    obtain ⟨_,_,_,_,_,e,_⟩:=k
    cases e
   | false =>
    rw [Sb.lit hs] at k
    obtain ⟨_,e,_⟩:=k
    cases e
 | x::xs,ys,zs,r,t,u,bs,cs,h,k=>by
  cases hs:stB x with
  | true =>
   rw [Sb.star hs] at h
   obtain ⟨z,bs',ys',rfl,hz,rfl,h2⟩:=h
   have hz0:=part_pos hz
   have e1:stB (z++tlB x)=stB z:=st_app hz0
   cases hsz:stB z with
   | true =>
    rw [hsz] at e1
    rw [Sb.star e1] at k
    obtain ⟨z',cs',zs',rfl,hz',rfl,k2⟩:=k
    obtain ⟨ds,d1,d2⟩:=Sb.comp2 h2 k2
    refine ⟨([z'++tlB z],false)::ds,⟨[([z'],false)],cs',_,_,ds,rfl,sb_one_star hsz hz',rfl,d1⟩,(Sb.star hs).2 ⟨_,_,_,rfl,(sub_part hz hsz hz').1,?_,d2⟩⟩
    rw [tl_app2 hz0,app_assoc]
   | false =>
    rw [hsz] at e1
    rw [Sb.lit e1] at k
    obtain ⟨zs',rfl,k2⟩:=k
    obtain ⟨ds,d1,d2⟩:=Sb.comp2 h2 k2
    exact ⟨([z],false)::ds,⟨[],cs,_,_,ds,rfl,sb_one_lit hsz,rfl,d1⟩,(Sb.star hs).2 ⟨_,_,_,rfl,hz,rfl,d2⟩⟩
  | false =>
   rw [Sb.lit hs] at h
   obtain ⟨ys',rfl,h2⟩:=h
   rw [Sb.lit hs] at k
   obtain ⟨zs',rfl,k2⟩:=k
   obtain ⟨ds,d1,d2⟩:=Sb.comp2 h2 k2
   exact ⟨ds,d1,(Sb.lit hs).2 ⟨_,rfl,d2⟩⟩
theorem Sb.bsz {m:Nat}:∀ {xs ys:List ByteArray} {r t:Bool} {bs:List (List ByteArray×Bool)},Sb xs r bs ys t→(∀ y∈ys,y.size≤m)→∀ b∈bs,∀ x∈b.1,x.size≤m
 | [],ys,false,t,bs,h,hy=>by
  obtain ⟨rfl,_,_⟩:=h
  intro b hb;cases hb
 | [],ys,true,t,bs,h,hy=>by
  obtain ⟨rfl,_⟩:=h
  intro b hb
  rw [List.mem_singleton.1 hb]
  exact hy
 | x::xs,ys,r,t,bs,h,hy=>by
  cases hs:stB x with
  | true =>
   rw [Sb.star hs] at h
   obtain ⟨z,bs',zs,rfl,hz,rfl,h2⟩:=h
   intro b hb
   rcases List.mem_cons.1 hb with rfl|hb
   ·intro q hq
    rw [List.mem_singleton.1 hq]
    have:=hy _ List.mem_cons_self
    rw [app_size] at this
    omega
   ·exact Sb.bsz h2 (fun y h=>hy y (List.mem_cons_of_mem _ h)) b hb
  | false =>
   rw [Sb.lit hs] at h
   obtain ⟨zs,rfl,h2⟩:=h
   exact Sb.bsz h2 (fun y h=>hy y (List.mem_cons_of_mem _ h))
theorem Sb.ysz {m M:Nat}:∀ {xs ys:List ByteArray} {r t:Bool} {bs:List (List ByteArray×Bool)},Sb xs r bs ys t→(∀ b∈bs,∀ x∈b.1,x.size≤m)→(∀ x∈xs,x.size≤M)→∀ y∈ys,y.size≤m+M
 | [],ys,false,t,bs,h,hb,hx=>by
  obtain ⟨_,rfl,_⟩:=h
  intro y hy;cases hy
 | [],ys,true,t,bs,h,hb,hx=>by
  obtain ⟨rfl,_⟩:=h
  intro y hy
  have:=hb _ (List.mem_singleton.2 rfl) y hy
  omega
 | x::xs,ys,r,t,bs,h,hb,hx=>by
  cases hs:stB x with
  | true =>
   rw [Sb.star hs] at h
   obtain ⟨z,bs',zs,rfl,hz,rfl,h2⟩:=h
   intro y hy
   rcases List.mem_cons.1 hy with rfl|hy
   ·have h3:=hb _ List.mem_cons_self z (List.mem_singleton.2 rfl)
    have h4:=hx _ List.mem_cons_self
    have h5:=tlB_size x
    rw [app_size]
    omega
   ·exact Sb.ysz h2 (fun b h=>hb b (List.mem_cons_of_mem _ h)) (fun x h=>hx x (List.mem_cons_of_mem _ h)) y hy
  | false =>
   rw [Sb.lit hs] at h
   obtain ⟨zs,rfl,h2⟩:=h
   intro y hy
   rcases List.mem_cons.1 hy with rfl|hy
   ·have:=hx _ List.mem_cons_self
    omega
   ·exact Sb.ysz h2 hb (fun x h=>hx x (List.mem_cons_of_mem _ h)) y hy
def LnIs (M:Nat) (l r:Pn):Prop:=∃ (l0 r0:Pn) (ds:List (List ByteArray×Bool)),szN M r0∧Sb l0.1 l0.2 ds l.1 l.2∧Sb r0.1 r0.2 ds r.1 r.2
theorem nr_sb {l r h:Pn} (ho:nrO l r h=true):∃ bs,Sb l.1 l.2 bs (nrL l r h).1 (nrL l r h).2∧Sb r.1 r.2 bs (nrR l r h).1 (nrR l r h).2:=by
 have h1:narO l.1 l.2 r.1 r.2 h.1 h.2=true:=ho
 obtain ⟨k1,k2,k3,k4⟩:=nar_parts.1 h1
 refine ⟨bndB l.1 l.2 (meetL l.1 h.1) (l.2&&h.2),?_,?_⟩
 ·unfold nrL narL narLr
  rw [if_pos h1,if_pos h1]
  exact bnd_sb (meet_within k3).1
 ·unfold nrR narR narRr
  rw [if_pos h1,if_pos h1]
  exact (car_sb k4).1
theorem LnIs.first {M:Nat} {l r h:Pn} (hr:szN M r) (ho:nrO l r h=true):LnIs M (nrL l r h) (nrR l r h):=by
 obtain ⟨bs,h1,h2⟩:=nr_sb ho
 exact ⟨l,r,bs,hr,h1,h2⟩
theorem LnIs.next {M:Nat} {l r h:Pn} (hl:LnIs M l r) (ho:nrO l r h=true):LnIs M (nrL l r h) (nrR l r h):=by
 obtain ⟨bs,h1,h2⟩:=nr_sb ho
 obtain ⟨l0,r0,ds,hz,k1,k2⟩:=hl
 obtain ⟨es,e1,e2⟩:=k1.comp2 h1
 obtain ⟨fs,f1,f2⟩:=k2.comp2 h2
 obtain rfl:=e1.fn f1
 exact ⟨l0,r0,es,hz,e2,f2⟩
theorem LnIs.sz {m M:Nat} {l r:Pn} (h:LnIs M l r) (hl:szN m l):szN (m+M) r:=by
 obtain ⟨l0,r0,ds,hz,k1,k2⟩:=h
 exact k2.ysz (k1.bsz hl) hz
theorem nrO_of {l r h:Pn} (hk:rlOk (nrL l r h) (nrR l r h)):nrO l r h=true:=by
 cases ho:nrO l r h with
 | true=>rfl
 | false =>
  exfalso
  have h1:narO l.1 l.2 r.1 r.2 h.1 h.2=false:=ho
  have:=(okPn_len hk.okl).1
  unfold nrL narL at this
  rw [if_neg (by rw [h1];decide)] at this
  exact absurd this (by simp)
theorem pcs_ln {l:List St} (hg:GoodS l) (hl:∀ s∈l,∀ p∈s.2.2,szN 40 p.2.1∧szN 40 p.2.2):∀ {n i:Nat} {ps:List Pc},pcsF l n i=some ps→∀ q∈ps,LnIs 40 q.2.2.1 q.2.2.2
 | 0,i,ps,h=>by cases h
 | n+1,i,ps,h=>by
  have hok:=(pcs_ok hg _ _ _ h).ok
  have hnm:∀ s∈l,s.1.size≤40:=fun s hs=>by
   obtain ⟨j,hj⟩:=List.mem_iff_getElem?.1 hs
   have:=(hg.nm j s hj).1
   unfold nameOk at this
   simp only [Bool.and_eq_true,decide_eq_true_eq] at this
   omega
  have hrg:∀ q∈ps,szR 40 q.1:=fun q hq=>(pcs_lz (m:=40) (by omega) (fun s hs=>⟨hnm s hs,hl s hs⟩) h q hq).1
  unfold pcsF at h
  split at h
  ·cases h
  ·rename_i s hs
   have hsl:=hl s (mG hs)
   have hns:=hnm s (mG hs)
   split at h
   ·cases h
   ·rename_i ab hab
    have hA:∀ q∈ab,q.2.1=3→LnIs 40 q.2.2.1 q.2.2.2:=by
     cases hp:parS l i with
     | some p =>
      rw [hp] at hab
      exact fun q hq _=>pcs_ln hg hl hab q hq
     | none =>
      rw [hp] at hab
      cases hab
      intro q hq e
      rw [List.mem_singleton.1 hq] at e
      cases e
    intro q hq
    have hk:=(hok q hq).rl
    have hz:=(hrg q hq).1
    obtain ⟨k,p,q',hlt,hkp,h4,hq',ho,rfl⟩:=((row_mem _ _ h).1 q).1 hq
    have hno:nrO (wideP s.1 p q' (rmB (ownR s.2.2 k p) q'.1)).1 (wideP s.1 p q' (rmB (ownR s.2.2 k p) q'.1)).2 (rmB (ownR s.2.2 k p) q'.1).1=true:=nrO_of hk
    show LnIs 40 (nrL _ _ _) (nrR _ _ _)
    by_cases h3:q'.2.1=3
    ·have e:wideP s.1 p q' (rmB (ownR s.2.2 k p) q'.1)=q'.2.2:=by unfold wideP;rw [if_pos h3]
     rw [e] at hno ⊢
     exact (hA q' hq' h3).next hno
    ·refine LnIs.first ?_ hno
     unfold wideP
     rw [if_neg h3]
     split
     ·exact (hsl p (mG hkp)).2
     ·intro x hx
      unfold stoP at hx
      rcases List.mem_or_eq_of_mem_set hx with hx|rfl
      ·exact hz x hx
      ·exact hns
open Pm
structure InvE (x:En):Prop where
 ok:okEn x
 lf:szN 40 x.1
 ln:LnIs 40 x.1 x.2.1
 ho:∀ h∈x.2.2,szN 160 h
theorem InvE.rt {x:En} (h:InvE x):szN 80 x.2.1:=h.ln.sz h.lf
theorem InvE.sz {x:En} (h:InvE x):szE 160 x:=⟨szN_up h.lf (by omega),szN_up h.rt (by omega),h.ho⟩
structure PcE (q:Pc):Prop where
 ok:PcOk q
 rg:szR 40 q.1
 lf:szN 40 q.2.2.1
 ln:LnIs 40 q.2.2.1 q.2.2.2
def Sz40 (l:List St):Prop:=∀ s∈l,∀ p∈s.2.2,szN 40 p.2.1∧szN 40 p.2.2
theorem pcs_e {l:List St} (hg:GoodS l) (hl:Sz40 l) {n i:Nat} {ps:List Pc} (h:pcsF l n i=some ps):∀ q∈ps,PcE q:=fun q hq=>by
 have hz:=pcs_lz (m:=40) (by omega) (fun s hs=>⟨by
  obtain ⟨j,hj⟩:=List.mem_iff_getElem?.1 hs
  have:=(hg.nm j s hj).1
  unfold nameOk at this
  simp only [Bool.and_eq_true,decide_eq_true_eq] at this
  omega,hl s hs⟩) h q hq
 exact ⟨(pcs_ok hg _ _ _ h).ok q hq,hz.1,hz.2.1,pcs_ln hg hl h q hq⟩
theorem nrsR_sz2 {m M:Nat} {l r:Pn} {hs:List Pn} (h1:szN m l) (h2:szN M r) (h3:∀ h∈hs,szN m h):∀ x∈nrsR l r hs,szN (m+M) x:=fun x hx=>by
 unfold nrsR at hx
 obtain ⟨q,hq,rfl⟩:=List.mem_map.1 hx
 exact (nw_sz h1 h2 (h3 q (List.mem_filter.1 hq).1)).2
theorem PcE.en {q:Pc} (h:PcE q):okEn (entF q)∧szN 80 (entF q).1∧szN 40 (entF q).2.1∧∀ x∈(entF q).2.2,szN 120 x:=by
 have hr:szN 80 q.2.2.2:=h.ln.sz h.lf
 refine ⟨⟨rlOk_turn.1 h.ok.rl,h.ok.rl.okr,redH_ok,?_⟩,hr,h.lf,?_⟩
 ·show (redH _ _).length≤64
  exact Nat.le_trans (redH_len _ _) (Nat.le_trans (nrsR_len _ _ _) h.ok.rg.2.2)
 ·exact redH_sz (szN_up hr (by omega)) fun x hx=>szN_up (nrsR_sz2 (m:=40) (M:=80) h.lf hr h.rg.2 x hx) (by omega)
theorem inv_e {q:Pc} (h:PcE q) {x:En} (hx:invO (entF q)=some x) (hr:rdE (entF q).2.1 (nrsR (entF q).1 (entF q).2.1 (entF q).2.2)=false):InvE x:=by
 obtain ⟨h1,h2,h3,h4⟩:=h.en
 obtain ⟨e1,e2,e3,e4⟩:=putO_ok hx (rlOk_turn.1 h1.1)
 refine ⟨e4,?_,?_,?_⟩
 ·rw [e1];exact h3
 ·rw [e1,e2];exact h.ln
 ·rw [e3]
  exact redH_sz (szN_up h3 (by omega)) fun y hy=>szN_up (nrsR_sz2 (m:=120) (M:=40) (szN_up h2 (by omega)) h3 h4 y hy) (by omega)
theorem inv_all {ps:List Pc} (h:∀ q∈ps,PcE q) (hi:invE (ps.map entF)=0):∀ x∈(invC (ps.map entF)).1,InvE x:=fun x hx=>by
 obtain ⟨h1,h2,h3⟩:=inv_list hi
 rw [h2] at hx
 obtain ⟨e,he,ho⟩:=List.mem_filterMap.1 hx
 obtain ⟨q,hq,rfl⟩:=List.mem_map.1 he
 exact inv_e (h q hq) ho (h3 _ (List.mem_map.2 ⟨q,hq,rfl⟩))
theorem okM_view {ps:List Pc} (h:∀ q∈ps,PcE q) (hl:ps.length≤32):okM (ps.map entF) :=
 ⟨fun e he=>by
  obtain ⟨q,hq,rfl⟩:=List.mem_map.1 he
  obtain ⟨h1,h2,h3,h4⟩:=(h q hq).en
  exact ⟨h1,szN_up h2 (by omega),szN_up h3 (by omega),fun x hx=>szN_up (h4 x hx) (by omega)⟩,by rw [List.length_map];exact hl⟩
open Pm
theorem prI_at {α:Type} {a b:List α} {j k:Nat} {e f:α} (hj:a[j]? = some e) (hk:b[k]? = some f):j * b.length+k<a.length * b.length∧prI a b (j * b.length+k)=some (e,f):=by
 have h1:=(sI.1 hj).1
 have h2:=(sI.1 hk).1
 refine ⟨Nat.lt_of_lt_of_le (Nat.add_lt_add_left h2 _) ?_,?_⟩
 ·rw [←Nat.succ_mul]
  exact Nat.mul_le_mul_right _ h1
 ·unfold prI
  have e1:(j * b.length+k) / b.length=j:=by rw [Nat.add_comm,Nat.add_mul_div_right _ _ (by omega),Nat.div_eq_of_lt h2,Nat.zero_add]
  have e2:(j * b.length+k) % b.length=k:=by rw [Nat.add_comm,Nat.add_mul_mod_self_right,Nat.mod_eq_of_lt h2]
  rw [e1,e2,hj,hk]
theorem prA_false {α:Type} {p:α→α→Bool} {a b:List α} (h:prA p a b=false) {e f:α} (he:e∈a) (hf:f∈b):p e f=false:=by
 obtain ⟨j,hj⟩:=List.mem_iff_getElem?.1 he
 obtain ⟨k,hk⟩:=List.mem_iff_getElem?.1 hf
 obtain ⟨h1,h2⟩:=prI_at hj hk
 cases hp:p e f with
 | false=>rfl
 | true=>rw [prA_yes h1 h2 hp] at h;cases h
theorem prI_mem {α:Type} {a b:List α} {q:Nat} {e f:α} (h:prI a b q=some (e,f)):a[q / b.length]? = some e∧b[q % b.length]? = some f:=by
 unfold prI at h
 split at h
 ·rename_i e' f' h1 h2
  cases h
  exact ⟨h1,h2⟩
 ·cases h
theorem chk2 {a b:List En} (h:chkMs [a,b]=0):chkM a=0∧chkM b=0:=by
 have e:chkMs [a,b]=if chkM a=0 then (if chkM b=0 then 0 else chkM b) else chkM a:=rfl
 rw [e] at h
 by_cases h1:chkM a=0
 ·rw [if_pos h1] at h
  by_cases h2:chkM b=0
  ·exact ⟨h1,h2⟩
  ·rw [if_neg h2] at h;exact absurd h h2
 ·rw [if_neg h1] at h;exact absurd h h1
open Pm
def locP (l:List St) (i:Nat) (c:ByteArray):Int×ByteArray:=if belowV c=true then seeF l c l.length i else (0,⟨#[]⟩)
theorem see_fuel {l:List St} {c:ByteArray}:∀ {n i:Nat},okF l n i→seeF l c (n+1) i=seeF l c n i
 | 0,i,h=>h.elim
 | n+1,i,h=>by
  have e1:seeF l c (n+1+1) i=match l[i]? with
   | none=>(0,⟨#[]⟩)
   | some s=>seeL s.1 c (match parS l i with|some p=>seeF l c (n+1) p|none=>(1,⟨#[]⟩)) (decS s.2.2 c):=rfl
  have e2:seeF l c (n+1) i=match l[i]? with
   | none=>(0,⟨#[]⟩)
   | some s=>seeL s.1 c (match parS l i with|some p=>seeF l c n p|none=>(1,⟨#[]⟩)) (decS s.2.2 c):=rfl
  rw [e1,e2]
  unfold okF at h
  cases hp:parS l i with
  | none=>rfl
  | some p =>
   rw [hp] at h
   dsimp only
   rw [see_fuel h]
theorem abv_fuel {l:List St}:∀ {n i:Nat},okF l n i→abvF l (n+1) i=abvF l n i
 | 0,i,h=>h.elim
 | n+1,i,h=>by
  have e1:abvF l (n+1+1) i=match parS l i with
   | some p=>p::abvF l (n+1) p
   | none=>[]:=rfl
  have e2:abvF l (n+1) i=match parS l i with
   | some p=>p::abvF l n p
   | none=>[]:=rfl
  rw [e1,e2]
  unfold okF at h
  cases hp:parS l i with
  | none=>rfl
  | some p =>
   rw [hp] at h
   dsimp only
   rw [abv_fuel h]
theorem dec_mt {ps:List Ln} {c:ByteArray} {q:Ln} (h:decS ps c=some q):q∈ps∧mt q.2.1 c=true:=by
 unfold decS at h
 have h1:=List.mem_of_find?_eq_some h
 have h2:=List.find?_some h
 exact ⟨List.mem_reverse.1 h1,h2⟩
theorem see_cases {l:List St} (hg:GoodS l) {n i:Nat} {s:St} (hs:l[i]? = some s) (c:ByteArray) :
 (seeF l c (n+1) i).1=0∨∃ q,q∈s.2.2∧mt q.2.1 c=true∧∃ ab,ab=(match parS l i with|some p=>seeF l c n p|none=>((1:Int),(⟨#[]⟩:ByteArray)))∧ab.1≠0 ∧
  ((ab.1=3∧seeF l c (n+1) i=(3,ab.2))∨(ab.1≠3∧q.1=3∧seeF l c (n+1) i=(3,fT q.2.1 q.2.2 c))∨(ab.1≠3∧q.1≠3∧∃ k:Int,(k=1∨k=2)∧seeF l c (n+1) i=(k,stoB s.1 c))):=by
 have e2:seeF l c (n+1) i=seeL s.1 c (match parS l i with|some p=>seeF l c n p|none=>(1,⟨#[]⟩)) (decS s.2.2 c):=by
  show (match l[i]? with|none=>_|some s=>_)=_
  rw [hs]
  rfl
 rw [e2]
 generalize hab:(match parS l i with|some p=>seeF l c n p|none=>((1:Int),(⟨#[]⟩:ByteArray)))=ab
 cases hd:decS s.2.2 c with
 | none=>exact .inl rfl
 | some q =>
  obtain ⟨m1,m2⟩:=dec_mt hd
  have e3:seeL s.1 c ab (some q)=if ab.1=0∨q.1=4 then (0,⟨#[]⟩) else if ab.1=3 then (3,ab.2) else if q.1=3 then (3,fT q.2.1 q.2.2 c) else (ownK q.1 ab.1,stoB s.1 c):=rfl
  rw [e3]
  by_cases h1:ab.1=0∨q.1=4
  ·rw [if_pos h1];exact .inl rfl
  ·refine .inr ⟨q,m1,m2,ab,rfl,fun e=>h1 (.inl e),?_⟩
   rw [if_neg h1]
   by_cases h3:ab.1=3
   ·rw [if_pos h3];exact .inl ⟨h3,rfl⟩
   ·rw [if_neg h3]
    by_cases h4:q.1=3
    ·rw [if_pos h4];exact .inr (.inl ⟨h3,h4,rfl⟩)
    ·rw [if_neg h4];exact .inr (.inr ⟨h3,h4,_,ownK_kd _ _,rfl⟩)
theorem see_below {l:List St} (hg:GoodS l) {n i:Nat} {c:ByteArray} (h:(seeF l c n i).1≠0):belowV c=true:=by
 cases n with
 | zero=>exact absurd rfl h
 | succ n =>
  cases hs:l[i]? with
  | none =>
   exfalso
   apply h
   have e2:seeF l c (n+1) i=(0,⟨#[]⟩):=by
    show (match l[i]? with|none=>_|some s=>_)=_
    rw [hs]
   rw [e2]
  | some s =>
   rcases see_cases hg (n:=n) hs c with h0|⟨q,hq,hm,_⟩
   ·exact absurd h0 h
   ·have hv:=(lineOk.parts ((hg.ln i s hs).2 q hq)).2.1
    obtain ⟨t,y,u,_,h2,_,h4,_⟩:=first_view hv hm
    have hr:compsB rootV=[viewN]:=by decide +kernel
    unfold belowV underB
    rw [h4,hr,h2]
    simp
theorem badL_no {l:List St} {i:Nat}:∀ {ps:List Ln} {os:List Pn},badL l i os ps=false→∀ q∈ps,q.1=3→ownT l i q.2.2=false
 | [],os,h,q,hq,_=>by cases hq
 | p::ps,os,h,q,hq,h3=>by
  unfold badL at h
  by_cases hp:p.1≠3
  ·rw [if_pos hp] at h
   rcases List.mem_cons.1 hq with rfl|hq
   ·exact absurd h3 hp
   ·exact badL_no h q hq h3
  ·rw [if_neg hp] at h
   rw [Bool.or_eq_false_iff,Bool.or_eq_false_iff] at h
   rcases List.mem_cons.1 hq with rfl|hq
   ·exact h.1.1
   ·exact badL_no h.2 q hq h3
theorem join_inj {x y x' y':ByteArray} {u u':List ByteArray} (h:joinB (x::y::u)=joinB (x'::y'::u')) (h1:∀ z∈x::y::u,comp z.data.toList=true) (h2:∀ z∈x'::y'::u',comp z.data.toList=true):x::y::u=x'::y'::u':=by
 rw [←joinB_comps (by simp) h1,← joinB_comps (by simp) h2,h]
open Pm
theorem sto_inj {name name' c c':ByteArray} {p p':Pn} (hv:p.1.getD 0 ⟨#[]⟩=viewN) (hv':p'.1.getD 0 ⟨#[]⟩=viewN) (hm:mt p c=true) (hm':mt p' c'=true) (hn:comp name.data.toList=true) (hn':comp name'.data.toList=true) (h:stoB name c=stoB name' c'):name=name'∧c=c':=by
 obtain ⟨_,y,u,_,c2,c3,_,c5⟩:=first_view hv hm
 obtain ⟨_,y',u',_,d2,d3,_,d5⟩:=first_view hv' hm'
 have e1:stoB name c=joinB (name::y::u):=by rw [←c3,c2];exact stoB_join _ _ _
 have e2:stoB name' c'=joinB (name'::y'::u'):=by rw [←d3,d2];exact stoB_join _ _ _
 rw [e1,e2] at h
 have e3:=join_inj h (fun z hz=>by
  rcases List.mem_cons.1 hz with rfl|hz
  ·exact hn
  ·exact c5 z (by rw [c2];exact List.mem_cons_of_mem _ hz)) (fun z hz=>by
  rcases List.mem_cons.1 hz with rfl|hz
  ·exact hn'
  ·exact d5 z (by rw [d2];exact List.mem_cons_of_mem _ hz))
 obtain ⟨a,b⟩:=List.cons.inj e3
 refine ⟨a,?_⟩
 rw [←c3,c2,← d3,d2,b]
def ImpAt (l:List St) (n i:Nat) (c s:ByteArray):Prop:=∃ (j:Nat) (st:St) (k:Nat) (q:Ln),(j=i∨j∈abvF l n i)∧l[j]? = some st∧st.2.2[k]? = some q∧q.1=3∧mt q.2.1 c=true∧fT q.2.1 q.2.2 c=s
theorem see_src {l:List St} (hg:GoodS l) (c:ByteArray):∀ {n i:Nat},(seeF l c n i).1≠0 →
 ((seeF l c n i).1=3∧ImpAt l n i c (seeF l c n i).2)∨(((seeF l c n i).1=1∨(seeF l c n i).1=2)∧∃ (st:St) (q:Ln),l[i]? = some st∧q∈st.2.2∧mt q.2.1 c=true∧(seeF l c n i).2=stoB st.1 c)
 | 0,i,h=>absurd rfl h
 | n+1,i,h=>by
  cases hs:l[i]? with
  | none =>
   exfalso
   apply h
   have e2:seeF l c (n+1) i=(0,⟨#[]⟩):=by
    show (match l[i]? with|none=>_|some s=>_)=_
    rw [hs]
   rw [e2]
  | some st =>
   rcases see_cases hg (n:=n) hs c with h0|⟨q,hq,hm,ab,hab,hne,hcs⟩
   ·exact absurd h0 h
   ·rcases hcs with ⟨a3,e⟩|⟨a3,hq3,e⟩|⟨a3,hq3,k,hk,e⟩
    ·cases hp:parS l i with
     | none=>rw [hp] at hab;rw [hab] at a3;cases a3
     | some p =>
      rw [hp] at hab
      subst hab
      rcases see_src hg c hne with ⟨_,j,st',k,q',hj,hr⟩|⟨hk,_⟩
      ·rw [e]
       refine .inl ⟨rfl,j,st',k,q',.inr ?_,hr⟩
       show j∈(match parS l i with|some p=>p::abvF l n p|none=>[])
       rw [hp]
       rcases hj with rfl|hj
       ·exact List.mem_cons_self
       ·exact List.mem_cons_of_mem _ hj
      ·rcases hk with hk|hk<;>(have a3':(seeF l c n p).1=3:=a3;omega)
    ·rw [e]
     obtain ⟨k,hk⟩:=List.mem_iff_getElem?.1 hq
     exact .inl ⟨rfl,i,st,k,q,.inl rfl,hs,hk,hq3,hm,rfl⟩
    ·rw [e]
     exact .inr ⟨hk,st,q,rfl,hq,hm,rfl⟩
theorem badL_two {l:List St} {i:Nat}:∀ {ps:List Ln} {os:List Pn},badL l i os ps=false→∀ (k:Nat) (q:Ln),ps[k]? = some q→q.1=3→(∀ o∈os,metO q.2.2 o=false)∧∀ (j:Nat) (q':Ln),j<k→ps[j]? = some q'→q'.1=3→metO q.2.2 q'.2.2=false
 | [],os,h,k,q,hq,_=>by simp at hq
 | p::ps,os,h,k,q,hq,h3=>by
  unfold badL at h
  by_cases hp:p.1≠3
  ·rw [if_pos hp] at h
   cases k with
   | zero =>
    have:p=q:=by simpa using hq
    subst this
    exact absurd h3 hp
   | succ k =>
    obtain ⟨h1,h2⟩:=badL_two h k q (by simpa using hq) h3
    refine ⟨h1,fun j q' hj hq' h3'=>?_⟩
    cases j with
    | zero =>
     have:p=q':=by simpa using hq'
     subst this
     exact absurd h3' hp
    | succ j=>exact h2 j q' (by omega) (by simpa using hq') h3'
  ·rw [if_neg hp] at h
   rw [Bool.or_eq_false_iff,Bool.or_eq_false_iff] at h
   obtain ⟨⟨_,ho⟩,hr⟩:=h
   cases k with
   | zero =>
    have:p=q:=by simpa using hq
    subst this
    rw [List.any_eq_false] at ho
    exact ⟨fun o h=>by simpa using ho o h,fun j q' hj=>absurd hj (Nat.not_lt_zero _)⟩
   | succ k =>
    obtain ⟨h1,h2⟩:=badL_two hr k q (by simpa using hq) h3
    refine ⟨fun o h=>h1 o (List.mem_append_left _ h),fun j q' hj hq' h3'=>?_⟩
    cases j with
    | zero =>
     have:p=q':=by simpa using hq'
     subst this
     exact h1 _ (List.mem_append_right _ (List.mem_singleton.2 rfl))
    | succ j=>exact h2 j q' (by omega) (by simpa using hq') h3'
theorem imp_right {q:Ln} {c s:ByteArray} (hk:rlOk q.2.1 q.2.2) (hm:mt q.2.1 c=true) (hs:fT q.2.1 q.2.2 c=s):mt q.2.2 s=true:=by
 have h1:=f_turn (show fO q.2.1 q.2.2 c=true by rw [fO_mt hk];exact hm) hs
 rw [←fO_mt (rlOk_turn.1 hk)]
 exact h1.1
theorem abv_line {l:List St}:∀ {n i j j':Nat},okF l n i→j∈abvF l n i→j'∈abvF l n i→j=j'∨j'∈abvF l n j∨j∈abvF l n j'
 | 0,i,j,j',h,_,_=>h.elim
 | n+1,i,j,j',h,hj,hj'=>by
  have e2:∀ i,abvF l (n+1) i=match parS l i with
   | some p=>p::abvF l n p
   | none=>[]:=fun _=>rfl
  unfold okF at h
  rw [e2] at hj hj'
  cases hp:parS l i with
  | none=>rw [hp] at hj;cases hj
  | some p =>
   rw [hp] at h hj hj'
   have hup:∀ x y,x∈abvF l n y→x∈abvF l (n+1) y:=fun x y hx=>abv_mono (Nat.le_succ n) x hx
   rcases List.mem_cons.1 hj with rfl|hj
   ·rcases List.mem_cons.1 hj' with rfl|hj'
    ·exact .inl rfl
    ·exact .inr (.inl (hup _ _ hj'))
   ·rcases List.mem_cons.1 hj' with rfl|hj'
    ·exact .inr (.inr (hup _ _ hj))
    ·rcases abv_line h hj hj' with e|e|e
     ·exact .inl e
     ·exact .inr (.inl (hup _ _ e))
     ·exact .inr (.inr (hup _ _ e))
theorem imp_one {l:List St} (hg:GoodS l) {i:Nat} (hi:i<l.length) {c c' s:ByteArray} (h:ImpAt l l.length i c s) (h':ImpAt l l.length i c' s):c=c':=by
 obtain ⟨j,st,k,q,hj,hs,hk,h3,hm,hf⟩:=h
 obtain ⟨j',st',k',q',hj',hs',hk',h3',hm',hf'⟩:=h'
 have hq:=(lineOk.parts ((hg.ln j st hs).2 q (mG hk))).2.2.2 h3
 have hq':=(lineOk.parts ((hg.ln j' st' hs').2 q' (mG hk'))).2.2.2 h3'
 have r1:=imp_right hq.1 hm hf
 have r2:=imp_right hq'.1 hm' hf'
 have up:∀ {j j':Nat} {st st':St} {k k':Nat} {q q':Ln},l[j]? = some st→l[j']? = some st'→st.2.2[k]? = some q→st'.2.2[k']? = some q'→q.1=3→q'.1=3→mt q.2.2 s=true→mt q'.2.2 s=true→j'∈abvF l l.length j→False:=by
  intro j j' st st' k k' q q' hs hs' hk hk' h3 h3' r1 r2 hab
  have:=(badL_two (hg.bad j st hs) k q hk h3).1 q'.2.2 (List.mem_flatMap.2 ⟨j',hab,by
   unfold impsI impsL
   rw [hs']
   exact List.mem_map.2 ⟨q',List.mem_filter.2 ⟨mG hk',by rw [h3'];rfl⟩,rfl⟩⟩)
  have h9:=met_no this s
  rw [r1,r2] at h9
  cases h9
 have same:∀ {st:St} {k k':Nat} {q q':Ln} {j:Nat},l[j]? = some st→st.2.2[k]? = some q→st.2.2[k']? = some q'→q.1=3→q'.1=3→mt q.2.2 s=true→mt q'.2.2 s=true→¬ k'<k:=by
  intro st k k' q q' j hs hk hk' h3 h3' r1 r2 hlt
  have:=(badL_two (hg.bad j st hs) k q hk h3).2 k' q' hlt hk' h3'
  have h9:=met_no this s
  rw [r1,r2] at h9
  cases h9
 have hjj:j=j':=by
  rcases hj with rfl|hj
  ·rcases hj' with rfl|hj'
   ·rfl
   ·exact (up hs hs' hk hk' h3 h3' r1 r2 hj').elim
  ·rcases hj' with rfl|hj'
   ·exact (up hs' hs hk' hk h3' h3 r2 r1 hj).elim
   ·rcases abv_line (hg.okF hi) hj hj' with e|e|e
    ·exact e
    ·exact (up hs hs' hk hk' h3 h3' r1 r2 e).elim
    ·exact (up hs' hs hk' hk h3' h3 r2 r1 e).elim
 subst hjj
 rw [hs] at hs'
 cases hs'
 have hkk:k=k':=by
  have a:=same hs hk hk' h3 h3' r1 r2
  have b:=same hs hk' hk h3' h3 r2 r1
  omega
 subst hkk
 rw [hk] at hk'
 cases hk'
 have a:=(f_turn (show fO q.2.1 q.2.2 c=true by rw [fO_mt hq.1];exact hm) hf).2
 have b:=(f_turn (show fO q.2.1 q.2.2 c'=true by rw [fO_mt hq.1];exact hm') hf').2
 exact a.symm.trans b
theorem okF_up {l:List St}:∀ {n i j:Nat},okF l n i→j∈abvF l n i→okF l n j
 | 0,i,j,h,_=>h.elim
 | n+1,i,j,h,hj=>by
  have e2:abvF l (n+1) i=match parS l i with
   | some p=>p::abvF l n p
   | none=>[]:=rfl
  have mono:∀ {m i:Nat},okF l m i→okF l (m+1) i:=by
   intro m
   induction m with
   | zero=>intro i h;exact h.elim
   | succ m ih =>
    intro i h
    unfold okF at h ⊢
    cases hp:parS l i with
    | none=>trivial
    | some p=>rw [hp] at h;exact ih h
  unfold okF at h
  rw [e2] at hj
  cases hp:parS l i with
  | none=>rw [hp] at hj;cases hj
  | some p =>
   rw [hp] at h hj
   rcases List.mem_cons.1 hj with rfl|hj
   ·exact mono h
   ·exact mono (okF_up h hj)
theorem top_up {l:List St}:∀ {n i j:Nat},okF l n i→j∈abvF l n i→(abvF l n j).getLastD j=(abvF l n i).getLastD i
 | 0,i,j,h,_=>h.elim
 | n+1,i,j,h,hj=>by
  have e2:∀ i,abvF l (n+1) i=match parS l i with
   | some p=>p::abvF l n p
   | none=>[]:=fun _=>rfl
  unfold okF at h
  have ei:=e2 i
  cases hp:parS l i with
  | none=>rw [ei,hp] at hj;cases hj
  | some p =>
   rw [hp] at h ei
   dsimp only at ei
   rw [ei] at hj ⊢
   rw [List.getLastD_cons]
   rcases List.mem_cons.1 hj with rfl|hj
   ·rw [abv_fuel h]
   ·rw [←top_up h hj]
    have hokj:okF l n j:=okF_up h hj
    rw [abv_fuel hokj]
theorem imp_sto {l:List St} (hg:GoodS l) {i:Nat} (hi:i<l.length) {c c' s:ByteArray} (h:ImpAt l l.length i c s) {st:St} {q':Ln} (hst:l[i]? = some st) (hv:q'.2.1.1.getD 0 ⟨#[]⟩=viewN) (hm':mt q'.2.1 c'=true) (hs:s=stoB st.1 c'):False:=by
 obtain ⟨j,sj,k,q,hj,hsj,hk,h3,hm,hf⟩:=h
 have hqm:=mG hk
 have hq:=(lineOk.parts ((hg.ln j sj hsj).2 q hqm)).2.2.2 h3
 have hfo:fO q.2.1 q.2.2 c=true:=by rw [fO_mt hq.1];exact hm
 obtain ⟨_,cs,x,m,g1,g2,_,_,g5⟩:=fwd_of (show fwdO q.2.1.1 q.2.1.2 q.2.2.1 q.2.2.2 c=true from hfo)
 have hokr:=hq.1.okr
 obtain ⟨_,y,u,_,c2,c3,_,c5⟩:=first_view hv hm'
 have hcn:comp st.1.data.toList=true:=by
  have:=(hg.nm i st hst).1
  unfold nameOk at this
  simp only [Bool.and_eq_true] at this
  exact this.1.1
 have esp:stoB st.1 c'=joinB (st.1::y::u):=by rw [←c3,c2];exact stoB_join _ _ _
 cases hfr:q.2.2.1 with
 | nil=>have:=(okPn_len hokr).1;rw [hfr] at this;cases this
 | cons z zs =>
  have hpt:=(check_zero hokr).2.2
  have hmc:=g2.comps (parts_all hpt)
  have hm2:=fil_two hokr g2
  rw [hfr] at hpt g2
  unfold partsOk at hpt
  rw [Bool.and_eq_true] at hpt
  obtain ⟨m',rfl,_⟩:=(Fil.lit (comp_42 hpt.1)).1 g2
  cases m' with
  | nil=>simp at hm2
  | cons y' u' =>
   have e5:joinB (z::y'::u')=joinB (st.1::y::u):=by rw [←esp,← hs,← hf];exact g5.symm
   have e6:=join_inj e5 hmc (fun w hw=>by
    rcases List.mem_cons.1 hw with rfl|hw
    ·exact hcn
    ·exact c5 w (by rw [c2];exact List.mem_cons_of_mem _ hw))
   have e7:z=st.1:=(List.cons.inj e6).1
   have hbad:=badL_no (hg.bad j sj hsj) q hqm h3
   unfold ownT at hbad
   rw [hfr] at hbad
   simp only [List.getD_cons_zero] at hbad
   rw [e7,(hg.nm i st hst).2] at hbad
   simp only at hbad
   have htop:topS l j=topS l i:=by
    rcases hj with rfl|hj
    ·rfl
    ·exact top_up (hg.okF hi) hj
   rw [htop] at hbad
   simp at hbad
theorem see_inj {l:List St} (hg:GoodS l) {i:Nat} (hi:i<l.length) {c c' s:ByteArray} (h:(seeF l c l.length i).1≠0∧(seeF l c l.length i).2=s) (h':(seeF l c' l.length i).1≠0∧(seeF l c' l.length i).2=s):c=c':=by
 rcases see_src hg c h.1 with ⟨_,a⟩|⟨_,st,q,a1,a2,a3,a4⟩
 ·rw [h.2] at a
  rcases see_src hg c' h'.1 with ⟨_,b⟩|⟨_,st',q',b1,b2,b3,b4⟩
  ·rw [h'.2] at b
   exact imp_one hg hi a b
  ·rw [h'.2] at b4
   exact (imp_sto hg hi a b1 (lineOk.parts ((hg.ln i st' b1).2 q' b2)).2.1 b3 b4).elim
 ·rw [h.2] at a4
  rcases see_src hg c' h'.1 with ⟨_,b⟩|⟨_,st',q',b1,b2,b3,b4⟩
  ·rw [h'.2] at b
   exact (imp_sto hg hi b a1 (lineOk.parts ((hg.ln i st a1).2 q a2)).2.1 a3 a4).elim
  ·rw [h'.2] at b4
   rw [a1] at b1
   cases b1
   have hcn:comp st.1.data.toList=true:=by
    have:=(hg.nm i st a1).1
    unfold nameOk at this
    simp only [Bool.and_eq_true] at this
    exact this.1.1
   exact (sto_inj (lineOk.parts ((hg.ln i st a1).2 q a2)).2.1 (lineOk.parts ((hg.ln i st a1).2 q' b2)).2.1 a3 b3 hcn hcn (a4.symm.trans b4)).2
open Pm
theorem view_len {l:List St} {n i:Nat} {ps:List Pc} (h:vwF l n i=some ps):pcsF l n i=some ps:=(vw_parts h).1
theorem inv_view {l:List St} (hg:GoodS l) (hz:Sz40 l) {n i:Nat} {ps:List Pc} (h:vwF l n i=some ps) (hl:ps.length≤32) (hi:invE (ps.map entF)=0) (c s:ByteArray):relE (invC (ps.map entF)).1 c s↔((seeF l c n i).1≠0∧(seeF l c n i).2=s):=by
 rw [inv_rel (okM_view (pcs_e hg hz (view_len h)) hl) hi]
 exact vw_rel hg h s c
end Go.Proofs.YtelkmeiepliecaaGreatDoor
