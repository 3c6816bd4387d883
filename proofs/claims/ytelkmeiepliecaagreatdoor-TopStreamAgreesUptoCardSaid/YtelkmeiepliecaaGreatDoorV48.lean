/-
  Part 48 of the proof.
-/
import Derived.Test.YtelkmeiepliecaaGreatDoorV46
set_option linter.unusedSimpArgs false
set_option linter.unusedVariables false
set_option maxHeartbeats 16000000
namespace Go.Proofs.YtelkmeiepliecaaGreatDoor
open Pm
theorem Sb.fnn:∀ {xs ys ys':List ByteArray} {r t t':Bool} {bs:List (List ByteArray×Bool)},Sb xs r bs ys t→Sb xs r bs ys' t'→ys=ys'∧t=t'
 | [],ys,ys',false,t,t',bs,h,k=>by
  obtain ⟨_,rfl,rfl⟩:=h
  obtain ⟨_,rfl,rfl⟩:=k
  exact ⟨rfl,rfl⟩
 | [],ys,ys',true,t,t',bs,h,k=>by
  obtain ⟨rfl,_⟩:=h
  obtain ⟨e,_⟩:=k
  simp only [List.cons.injEq,Prod.mk.injEq,and_true] at e
  exact e
 | x::xs,ys,ys',r,t,t',bs,h,k=>by
  cases hs:stB x with
  | true =>
   rw [Sb.star hs] at h k
   obtain ⟨z,bs',zs,rfl,_,rfl,h2⟩:=h
   obtain ⟨z2,bs2,zs2,e,_,rfl,k2⟩:=k
   simp only [List.cons.injEq,Prod.mk.injEq,and_true] at e
   obtain ⟨rfl,rfl⟩:=e
   obtain ⟨rfl,rfl⟩:=Sb.fnn h2 k2
   exact ⟨rfl,rfl⟩
  | false =>
   rw [Sb.lit hs] at h k
   obtain ⟨zs,rfl,h2⟩:=h
   obtain ⟨zs2,rfl,k2⟩:=k
   obtain ⟨rfl,rfl⟩:=Sb.fnn h2 k2
   exact ⟨rfl,rfl⟩
theorem Sb.many:∀ {xs ys:List ByteArray} {r t:Bool} {bs:List (List ByteArray×Bool)},Sb xs r bs ys t→bs.length=countB stB xs+(if r=true then 1 else 0)
 | [],ys,false,t,bs,h=>by
  obtain ⟨rfl,_,_⟩:=h
  rfl
 | [],ys,true,t,bs,h=>by
  obtain ⟨rfl,_⟩:=h
  rfl
 | x::xs,ys,r,t,bs,h=>by
  cases hs:stB x with
  | true =>
   rw [Sb.star hs] at h
   obtain ⟨z,bs',zs,rfl,_,rfl,h2⟩:=h
   have:=Sb.many h2
   rw [cnt_star hs,List.length_cons,this]
   omega
  | false =>
   rw [Sb.lit hs] at h
   obtain ⟨zs,rfl,h2⟩:=h
   rw [cnt_lit hs]
   exact Sb.many h2
theorem Sb.parts:∀ {xs ys:List ByteArray} {r t:Bool} {bs:List (List ByteArray×Bool)},Sb xs r bs ys t→(∀ x∈xs,partB x=true)→∀ y∈ys,partB y=true
 | [],ys,false,t,bs,h,hp=>by
  obtain ⟨_,rfl,_⟩:=h
  intro y hy;cases hy
 | [],ys,true,t,bs,h,hp=>h.2.2
 | x::xs,ys,r,t,bs,h,hp=>by
  cases hs:stB x with
  | true =>
   rw [Sb.star hs] at h
   obtain ⟨z,bs',zs,rfl,hz,rfl,h2⟩:=h
   intro y hy
   rcases List.mem_cons.1 hy with rfl|hy
   ·exact (sub_part (hp x List.mem_cons_self) hs hz).1
   ·exact Sb.parts h2 (fun x hx=>hp x (List.mem_cons_of_mem _ hx)) y hy
  | false =>
   rw [Sb.lit hs] at h
   obtain ⟨zs,rfl,h2⟩:=h
   intro y hy
   rcases List.mem_cons.1 hy with rfl|hy
   ·exact hp _ List.mem_cons_self
   ·exact Sb.parts h2 (fun x hx=>hp x (List.mem_cons_of_mem _ hx)) y hy
def SB2:List (List ByteArray×Bool)→List (List ByteArray×Bool)→List (List ByteArray×Bool)→Prop
 | [],cs,ds=>cs=[]∧ds=[]
 | p::bs,cs,ds=>∃ c1 c2 ys t ds',cs=c1++c2∧Sb p.1 p.2 c1 ys t∧ds=(ys,t)::ds'∧SB2 bs c2 ds'
theorem SB2.fn:∀ {bs cs ds ds':List (List ByteArray×Bool)},SB2 bs cs ds→SB2 bs cs ds'→ds=ds'
 | [],cs,ds,ds',h,k=>by
  obtain ⟨_,rfl⟩:=h
  obtain ⟨_,rfl⟩:=k
  rfl
 | p::bs,cs,ds,ds',h,k=>by
  obtain ⟨c1,c2,ys,t,es,rfl,h1,rfl,h2⟩:=h
  obtain ⟨k1,k2,ys',t',es',e,g1,rfl,g2⟩:=k
  have hl:c1.length=k1.length:=(Sb.many h1).trans (Sb.many g1).symm
  obtain ⟨rfl,rfl⟩:=List.append_inj e hl
  obtain ⟨rfl,rfl⟩:=Sb.fnn h1 g1
  rw [SB2.fn h2 g2]
theorem sb_one_star {z z':ByteArray} (hs:stB z=true) (hz:partB z'=true):Sb [z] false [([z'],false)] [z'++tlB z] false :=
 (Sb.star hs).2 ⟨z',[],[],rfl,hz,rfl,rfl,rfl,rfl⟩
theorem sb_one_lit {z:ByteArray} (hs:stB z=false):Sb [z] false [] [z] false:=(Sb.lit hs).2 ⟨[],rfl,rfl,rfl,rfl⟩
theorem Sb.comp2:∀ {xs ys zs:List ByteArray} {r t u:Bool} {bs cs:List (List ByteArray×Bool)},Sb xs r bs ys t→Sb ys t cs zs u→∃ ds,SB2 bs cs ds∧Sb xs r ds zs u
 | [],ys,zs,false,t,u,bs,cs,h,k=>by
  obtain ⟨rfl,rfl,rfl⟩:=h
  obtain ⟨rfl,rfl,rfl⟩:=k
  exact ⟨[],⟨rfl,rfl⟩,rfl,rfl,rfl⟩
 | [],ys,zs,true,t,u,bs,cs,h,k=>by
  obtain ⟨rfl,h1,h2⟩:=h
  refine ⟨[(zs,u)],⟨cs,[],zs,u,[],(by simp),k,rfl,rfl,rfl⟩,rfl,fun e=>?_,Sb.parts k h2⟩
  subst e
  cases ys with
  | nil =>
   obtain rfl:=h1 rfl
   obtain ⟨_,k1,_⟩:=k
   exact k1 rfl
  | cons y ys =>
   exfalso
   cases hs:stB y with
   | true =>
    rw [Sb.star hs] at k
    obtain ⟨_,_,_,_,_,e,_⟩:=k
    cases e
   | false =>
    rw [Sb.lit hs] at k
    obtain ⟨_,e,_⟩:=k
    cases e
 | x::xs,ys,zs,r,t,u,bs,cs,h,k=>by
  cases hs:stB x with
  | true =>
   rw [Sb.star hs] at h
   obtain ⟨z,bs',ys',rfl,hz,rfl,h2⟩:=h
   have hz0:=part_pos hz
   have e1:stB (z++tlB x)=stB z:=st_app hz0
   cases hsz:stB z with
   | true =>
    rw [hsz] at e1
    rw [Sb.star e1] at k
    obtain ⟨z',cs',zs',rfl,hz',rfl,k2⟩:=k
    obtain ⟨ds,d1,d2⟩:=Sb.comp2 h2 k2
    refine ⟨([z'++tlB z],false)::ds,⟨[([z'],false)],cs',_,_,ds,rfl,sb_one_star hsz hz',rfl,d1⟩,(Sb.star hs).2 ⟨_,_,_,rfl,(sub_part hz hsz hz').1,?_,d2⟩⟩
    rw [tl_app2 hz0,app_assoc]
   | false =>
    rw [hsz] at e1
    rw [Sb.lit e1] at k
    obtain ⟨zs',rfl,k2⟩:=k
    obtain ⟨ds,d1,d2⟩:=Sb.comp2 h2 k2
    exact ⟨([z],false)::ds,⟨[],cs,_,_,ds,rfl,sb_one_lit hsz,rfl,d1⟩,(Sb.star hs).2 ⟨_,_,_,rfl,hz,rfl,d2⟩⟩
  | false =>
   rw [Sb.lit hs] at h
   obtain ⟨ys',rfl,h2⟩:=h
   rw [Sb.lit hs] at k
   obtain ⟨zs',rfl,k2⟩:=k
   obtain ⟨ds,d1,d2⟩:=Sb.comp2 h2 k2
   exact ⟨ds,d1,(Sb.lit hs).2 ⟨_,rfl,d2⟩⟩
theorem Sb.bsz {m:Nat}:∀ {xs ys:List ByteArray} {r t:Bool} {bs:List (List ByteArray×Bool)},Sb xs r bs ys t→(∀ y∈ys,y.size≤m)→∀ b∈bs,∀ x∈b.1,x.size≤m
 | [],ys,false,t,bs,h,hy=>by
  obtain ⟨rfl,_,_⟩:=h
  intro b hb;cases hb
 | [],ys,true,t,bs,h,hy=>by
  obtain ⟨rfl,_⟩:=h
  intro b hb
  rw [List.mem_singleton.1 hb]
  exact hy
 | x::xs,ys,r,t,bs,h,hy=>by
  cases hs:stB x with
  | true =>
   rw [Sb.star hs] at h
   obtain ⟨z,bs',zs,rfl,hz,rfl,h2⟩:=h
   intro b hb
   rcases List.mem_cons.1 hb with rfl|hb
   ·intro q hq
    rw [List.mem_singleton.1 hq]
    have:=hy _ List.mem_cons_self
    rw [app_size] at this
    omega
   ·exact Sb.bsz h2 (fun y h=>hy y (List.mem_cons_of_mem _ h)) b hb
  | false =>
   rw [Sb.lit hs] at h
   obtain ⟨zs,rfl,h2⟩:=h
   exact Sb.bsz h2 (fun y h=>hy y (List.mem_cons_of_mem _ h))
theorem Sb.ysz {m M:Nat}:∀ {xs ys:List ByteArray} {r t:Bool} {bs:List (List ByteArray×Bool)},Sb xs r bs ys t→(∀ b∈bs,∀ x∈b.1,x.size≤m)→(∀ x∈xs,x.size≤M)→∀ y∈ys,y.size≤m+M
 | [],ys,false,t,bs,h,hb,hx=>by
  obtain ⟨_,rfl,_⟩:=h
  intro y hy;cases hy
 | [],ys,true,t,bs,h,hb,hx=>by
  obtain ⟨rfl,_⟩:=h
  intro y hy
  have:=hb _ (List.mem_singleton.2 rfl) y hy
  omega
 | x::xs,ys,r,t,bs,h,hb,hx=>by
  cases hs:stB x with
  | true =>
   rw [Sb.star hs] at h
   obtain ⟨z,bs',zs,rfl,hz,rfl,h2⟩:=h
   intro y hy
   rcases List.mem_cons.1 hy with rfl|hy
   ·have h3:=hb _ List.mem_cons_self z (List.mem_singleton.2 rfl)
    have h4:=hx _ List.mem_cons_self
    have h5:=tlB_size x
    rw [app_size]
    omega
   ·exact Sb.ysz h2 (fun b h=>hb b (List.mem_cons_of_mem _ h)) (fun x h=>hx x (List.mem_cons_of_mem _ h)) y hy
  | false =>
   rw [Sb.lit hs] at h
   obtain ⟨zs,rfl,h2⟩:=h
   intro y hy
   rcases List.mem_cons.1 hy with rfl|hy
   ·have:=hx _ List.mem_cons_self
    omega
   ·exact Sb.ysz h2 hb (fun x h=>hx x (List.mem_cons_of_mem _ h)) y hy
def LnIs (M:Nat) (l r:Pn):Prop:=∃ (l0 r0:Pn) (ds:List (List ByteArray×Bool)),szN M r0∧Sb l0.1 l0.2 ds l.1 l.2∧Sb r0.1 r0.2 ds r.1 r.2
theorem nr_sb {l r h:Pn} (ho:nrO l r h=true):∃ bs,Sb l.1 l.2 bs (nrL l r h).1 (nrL l r h).2∧Sb r.1 r.2 bs (nrR l r h).1 (nrR l r h).2:=by
 have h1:narO l.1 l.2 r.1 r.2 h.1 h.2=true:=ho
 obtain ⟨k1,k2,k3,k4⟩:=nar_parts.1 h1
 refine ⟨bndB l.1 l.2 (meetL l.1 h.1) (l.2&&h.2),?_,?_⟩
 ·unfold nrL narL narLr
  rw [if_pos h1,if_pos h1]
  exact bnd_sb (meet_within k3).1
 ·unfold nrR narR narRr
  rw [if_pos h1,if_pos h1]
  exact (car_sb k4).1
theorem LnIs.first {M:Nat} {l r h:Pn} (hr:szN M r) (ho:nrO l r h=true):LnIs M (nrL l r h) (nrR l r h):=by
 obtain ⟨bs,h1,h2⟩:=nr_sb ho
 exact ⟨l,r,bs,hr,h1,h2⟩
theorem LnIs.next {M:Nat} {l r h:Pn} (hl:LnIs M l r) (ho:nrO l r h=true):LnIs M (nrL l r h) (nrR l r h):=by
 obtain ⟨bs,h1,h2⟩:=nr_sb ho
 obtain ⟨l0,r0,ds,hz,k1,k2⟩:=hl
 obtain ⟨es,e1,e2⟩:=k1.comp2 h1
 obtain ⟨fs,f1,f2⟩:=k2.comp2 h2
 obtain rfl:=e1.fn f1
 exact ⟨l0,r0,es,hz,e2,f2⟩
theorem LnIs.sz {m M:Nat} {l r:Pn} (h:LnIs M l r) (hl:szN m l):szN (m+M) r:=by
 obtain ⟨l0,r0,ds,hz,k1,k2⟩:=h
 exact k2.ysz (k1.bsz hl) hz
theorem nrO_of {l r h:Pn} (hk:rlOk (nrL l r h) (nrR l r h)):nrO l r h=true:=by
 cases ho:nrO l r h with
 | true=>rfl
 | false =>
  exfalso
  have h1:narO l.1 l.2 r.1 r.2 h.1 h.2=false:=ho
  have:=(okPn_len hk.okl).1
  unfold nrL narL at this
  rw [if_neg (by rw [h1];decide)] at this
  exact absurd this (by simp)
theorem pcs_ln {l:List St} (hg:GoodS l) (hl:∀ s∈l,∀ p∈s.2.2,szN 40 p.2.1∧szN 40 p.2.2):∀ {n i:Nat} {ps:List Pc},pcsF l n i=some ps→∀ q∈ps,LnIs 40 q.2.2.1 q.2.2.2
 | 0,i,ps,h=>by cases h
 | n+1,i,ps,h=>by
  have hok:=(pcs_ok hg _ _ _ h).ok
  have hnm:∀ s∈l,s.1.size≤40:=fun s hs=>by
   obtain ⟨j,hj⟩:=List.mem_iff_getElem?.1 hs
   have:=(hg.nm j s hj).1
   unfold nameOk at this
   simp only [Bool.and_eq_true,decide_eq_true_eq] at this
   omega
  have hrg:∀ q∈ps,szR 40 q.1:=fun q hq=>(pcs_lz (m:=40) (by omega) (fun s hs=>⟨hnm s hs,hl s hs⟩) h q hq).1
  unfold pcsF at h
  split at h
  ·cases h
  ·rename_i s hs
   have hsl:=hl s (mG hs)
   have hns:=hnm s (mG hs)
   split at h
   ·cases h
   ·rename_i ab hab
    have hA:∀ q∈ab,q.2.1=3→LnIs 40 q.2.2.1 q.2.2.2:=by
     cases hp:parS l i with
     | some p =>
      rw [hp] at hab
      exact fun q hq _=>pcs_ln hg hl hab q hq
     | none =>
      rw [hp] at hab
      cases hab
      intro q hq e
      rw [List.mem_singleton.1 hq] at e
      cases e
    intro q hq
    have hk:=(hok q hq).rl
    have hz:=(hrg q hq).1
    obtain ⟨k,p,q',hlt,hkp,h4,hq',ho,rfl⟩:=((row_mem _ _ h).1 q).1 hq
    have hno:nrO (wideP s.1 p q' (rmB (ownR s.2.2 k p) q'.1)).1 (wideP s.1 p q' (rmB (ownR s.2.2 k p) q'.1)).2 (rmB (ownR s.2.2 k p) q'.1).1=true:=nrO_of hk
    show LnIs 40 (nrL _ _ _) (nrR _ _ _)
    by_cases h3:q'.2.1=3
    ·have e:wideP s.1 p q' (rmB (ownR s.2.2 k p) q'.1)=q'.2.2:=by unfold wideP;rw [if_pos h3]
     rw [e] at hno ⊢
     exact (hA q' hq' h3).next hno
    ·refine LnIs.first ?_ hno
     unfold wideP
     rw [if_neg h3]
     split
     ·exact (hsl p (mG hkp)).2
     ·intro x hx
      unfold stoP at hx
      rcases List.mem_or_eq_of_mem_set hx with hx|rfl
      ·exact hz x hx
      ·exact hns
open Pm
theorem LnIs.car {M:Nat} {l r:Pn} {bs:List (List ByteArray×Bool)} {l' r':List ByteArray} {t u:Bool} (h:LnIs M l r) (k1:Sb l.1 l.2 bs l' t) (k2:Sb r.1 r.2 bs r' u):LnIs M (l',t) (r',u):=by
 obtain ⟨l0,r0,ds,hz,h1,h2⟩:=h
 obtain ⟨es,e1,e2⟩:=h1.comp2 k1
 obtain ⟨fs,f1,f2⟩:=h2.comp2 k2
 obtain rfl:=e1.fn f1
 exact ⟨l0,r0,es,hz,e2,f2⟩
theorem tails_le {m:Nat}:∀ {xs:List ByteArray},(∀ x∈xs,x.size≤m)→tails xs≤countB stB xs * m
 | [],_=>Nat.zero_le _
 | x::xs,h=>by
  have ih:=tails_le fun y hy=>h y (List.mem_cons_of_mem x hy)
  have hx:=h x List.mem_cons_self
  have ht:=tlB_size x
  unfold tails
  cases hs:stB x with
  | true =>
   rw [if_pos rfl,cnt_star hs,Nat.add_mul]
   omega
  | false =>
   rw [if_neg (by decide),cnt_lit hs]
   omega
theorem cnt_leN (xs:List ByteArray):countB stB xs≤xs.length:=List.length_filter_le _ _
theorem tails_pn {m:Nat} {p:Pn} (ok:okPn p) (hz:szN m p):tails p.1≤11 * m:=by
 refine Nat.le_trans (tails_le hz) (Nat.mul_le_mul_right m ?_)
 have hl:=(okPn_len ok).2
 have hp:=(check_zero ok).2.2
 cases he:p.1 with
 | nil=>exact Nat.zero_le _
 | cons x t =>
  rw [he] at hp hl
  unfold partsOk at hp
  rw [Bool.and_eq_true] at hp
  rw [cnt_lit (comp_42 hp.1)]
  have:=cnt_leN t
  simp only [List.length_cons] at hl
  omega
structure InvE (x:En):Prop where
 ok:okEn x
 lf:szN 40 x.1
 ln:LnIs 40 x.1 x.2.1
 ho:∀ h∈x.2.2,szN 160 h
theorem InvE.rt {x:En} (h:InvE x):szN 80 x.2.1:=h.ln.sz h.lf
theorem InvE.sz {x:En} (h:InvE x):szE 160 x:=⟨szN_up h.lf (by omega),szN_up h.rt (by omega),h.ho⟩
structure PcE (q:Pc):Prop where
 ok:PcOk q
 rg:szR 40 q.1
 lf:szN 40 q.2.2.1
 ln:LnIs 40 q.2.2.1 q.2.2.2
def Sz40 (l:List St):Prop:=∀ s∈l,∀ p∈s.2.2,szN 40 p.2.1∧szN 40 p.2.2
theorem pcs_e {l:List St} (hg:GoodS l) (hl:Sz40 l) {n i:Nat} {ps:List Pc} (h:pcsF l n i=some ps):∀ q∈ps,PcE q:=fun q hq=>by
 have hz:=pcs_lz (m:=40) (by omega) (fun s hs=>⟨by
  obtain ⟨j,hj⟩:=List.mem_iff_getElem?.1 hs
  have:=(hg.nm j s hj).1
  unfold nameOk at this
  simp only [Bool.and_eq_true,decide_eq_true_eq] at this
  omega,hl s hs⟩) h q hq
 exact ⟨(pcs_ok hg _ _ _ h).ok q hq,hz.1,hz.2.1,pcs_ln hg hl h q hq⟩
theorem nrsR_sz2 {m M:Nat} {l r:Pn} {hs:List Pn} (h1:szN m l) (h2:szN M r) (h3:∀ h∈hs,szN m h):∀ x∈nrsR l r hs,szN (m+M) x:=fun x hx=>by
 unfold nrsR at hx
 obtain ⟨q,hq,rfl⟩:=List.mem_map.1 hx
 exact (nw_sz h1 h2 (h3 q (List.mem_filter.1 hq).1)).2
theorem PcE.en {q:Pc} (h:PcE q):okEn (entF q)∧szN 80 (entF q).1∧szN 40 (entF q).2.1∧∀ x∈(entF q).2.2,szN 120 x:=by
 have hr:szN 80 q.2.2.2:=h.ln.sz h.lf
 refine ⟨⟨rlOk_turn.1 h.ok.rl,h.ok.rl.okr,redH_ok,?_⟩,hr,h.lf,?_⟩
 ·show (redH _ _).length≤64
  exact Nat.le_trans (redH_len _ _) (Nat.le_trans (nrsR_len _ _ _) h.ok.rg.2.2)
 ·exact redH_sz (szN_up hr (by omega)) fun x hx=>szN_up (nrsR_sz2 (m:=40) (M:=80) h.lf hr h.rg.2 x hx) (by omega)
theorem inv_e {q:Pc} (h:PcE q) {x:En} (hx:invO (entF q)=some x) (hr:rdE (entF q).2.1 (nrsR (entF q).1 (entF q).2.1 (entF q).2.2)=false):InvE x:=by
 obtain ⟨h1,h2,h3,h4⟩:=h.en
 obtain ⟨e1,e2,e3,e4⟩:=putO_ok hx (rlOk_turn.1 h1.1)
 refine ⟨e4,?_,?_,?_⟩
 ·rw [e1];exact h3
 ·rw [e1,e2];exact h.ln
 ·rw [e3]
  exact redH_sz (szN_up h3 (by omega)) fun y hy=>szN_up (nrsR_sz2 (m:=120) (M:=40) (szN_up h2 (by omega)) h3 h4 y hy) (by omega)
theorem inv_all {ps:List Pc} (h:∀ q∈ps,PcE q) (hi:invE (ps.map entF)=0):∀ x∈(invC (ps.map entF)).1,InvE x:=fun x hx=>by
 obtain ⟨h1,h2,h3⟩:=inv_list hi
 rw [h2] at hx
 obtain ⟨e,he,ho⟩:=List.mem_filterMap.1 hx
 obtain ⟨q,hq,rfl⟩:=List.mem_map.1 he
 exact inv_e (h q hq) ho (h3 _ (List.mem_map.2 ⟨q,hq,rfl⟩))
theorem okM_view {ps:List Pc} (h:∀ q∈ps,PcE q) (hl:ps.length≤32):okM (ps.map entF) :=
 ⟨fun e he=>by
  obtain ⟨q,hq,rfl⟩:=List.mem_map.1 he
  obtain ⟨h1,h2,h3,h4⟩:=(h q hq).en
  exact ⟨h1,szN_up h2 (by omega),szN_up h3 (by omega),fun x hx=>szN_up (h4 x hx) (by omega)⟩,by rw [List.length_map];exact hl⟩
theorem okM_inv {m:List En} (h:∀ x∈m,InvE x) (hl:m.length≤32):okM m:=⟨fun e he=>⟨(h e he).ok,szE_up (by omega) (h e he).sz⟩,hl⟩
theorem eqz_fine {B T:Nat}:∀ (n:Nat) (l f s:List ByteArray),ES l f s→SZ B l f s→tails l≤T→(∀ x∈l,x.size≤B+T)→∀ x∈(eqz n l f s).1,x.size≤B+T
 | 0,l,f,s,_,_,_,_=>by intro x hx;cases hx
 | n+1,l,f,s,hE,hZ,hT,hl=>by
  cases hs:stp f s with
  | none=>rw [eqz_end hs];exact hl
  | some p =>
   obtain ⟨k,x,y⟩:=p
   cases hd:detO x y with
   | false=>rw [eqz_bad hs hd];intro x hx;cases hx
   | true =>
    obtain ⟨hcc,hk,_⟩:=hE.lt hs hd
    rw [eqz_step hs hd]
    obtain ⟨el,l1,l2⟩:=fix_tails hcc (k:=k) (xs:=l) (by rw [hE.2.1];exact hk)
    have hc:=(hZ.fix hE hs hd).2
    refine eqz_fine n _ _ _ (hE.fix hcc hk).1 (hZ.fix hE hs hd).1 (by omega) fun z hz=>?_
    rcases l2 z hz with h1|⟨_,h1⟩
    ·exact hl z h1
    ·omega
theorem SZ.up {B C:Nat} (h:B≤C) {l f s:List ByteArray} (k:SZ B l f s):SZ C l f s :=
 ⟨⟨fun x hx hn=>Nat.le_trans (k.1.1 x hx hn) h,fun x hx hn=>Nat.le_trans (k.1.2 x hx hn) h⟩,⟨fun x hx hn=>Nat.le_trans (k.2.1.1 x hx hn) h,fun x hx hn=>Nat.le_trans (k.2.1.2 x hx hn) h⟩,Nat.le_trans k.2.2.1 h,fun x hx=>Nat.le_trans (k.2.2.2 x hx) (by omega)⟩
theorem ag_sz {e f:En} (he:InvE e) (hf:InvE f) (hg:agG e.1.1 e.1.2 e.2.1.1 e.2.1.2 f.1.1 f.1.2 f.2.1.1 f.2.1.2=true) :
 SZ 1840 (meetL e.1.1 f.1.1) (carL e.1.1 e.1.2 (meetL e.1.1 f.1.1) (e.1.2&&f.1.2) e.2.1.1 e.2.1.2) (carL f.1.1 f.1.2 (meetL e.1.1 f.1.1) (e.1.2&&f.1.2) f.2.1.1 f.2.1.2)∧tails (meetL e.1.1 f.1.1)≤440∧∀ x∈meetL e.1.1 f.1.1,x.size≤40:=by
 obtain ⟨h1,h2,h3,h4⟩:=ag_parts.1 hg
 obtain ⟨w1,w2⟩:=meet_within h2
 have hM:szN 40 (meetL e.1.1 f.1.1,e.1.2&&f.1.2):=meet_sz h2 he.lf hf.lf
 have hk:okPn (meetL e.1.1 f.1.1,e.1.2&&f.1.2):=met_ok (p:=e.1) (q:=f.1) h2
 have a1:szN 80 (carL e.1.1 e.1.2 (meetL e.1.1 f.1.1) (e.1.2&&f.1.2) e.2.1.1 e.2.1.2,carR e.1.1 e.1.2 (meetL e.1.1 f.1.1) (e.1.2&&f.1.2) e.2.1.1 e.2.1.2):=(he.ln.car (bnd_sb w1) (car_sb h3).1).sz hM
 have a2:szN 80 (carL f.1.1 f.1.2 (meetL e.1.1 f.1.1) (e.1.2&&f.1.2) f.2.1.1 f.2.1.2,carR f.1.1 f.1.2 (meetL e.1.1 f.1.1) (e.1.2&&f.1.2) f.2.1.1 f.2.1.2):=(hf.ln.car (bnd_sb w2) (car_sb h4).1).sz hM
 have t1:tails (carL e.1.1 e.1.2 (meetL e.1.1 f.1.1) (e.1.2&&f.1.2) e.2.1.1 e.2.1.2)≤11 * 80:=tails_pn (p:=(carL e.1.1 e.1.2 (meetL e.1.1 f.1.1) (e.1.2&&f.1.2) e.2.1.1 e.2.1.2,carR e.1.1 e.1.2 (meetL e.1.1 f.1.1) (e.1.2&&f.1.2) e.2.1.1 e.2.1.2)) (car_sb h3).2 a1
 have t2:tails (carL f.1.1 f.1.2 (meetL e.1.1 f.1.1) (e.1.2&&f.1.2) f.2.1.1 f.2.1.2)≤11 * 80:=tails_pn (p:=(carL f.1.1 f.1.2 (meetL e.1.1 f.1.1) (e.1.2&&f.1.2) f.2.1.1 f.2.1.2,carR f.1.1 f.1.2 (meetL e.1.1 f.1.1) (e.1.2&&f.1.2) f.2.1.1 f.2.1.2)) (car_sb h4).2 a2
 have t3:tails (meetL e.1.1 f.1.1)≤11 * 40:=tails_pn hk hM
 refine ⟨⟨⟨fun x hx _=>?_,fun x hx _=>?_⟩,⟨fun x hx _=>?_,fun x hx _=>?_⟩,by omega,fun x hx=>?_⟩,t3,hM⟩
 ·have:=a1 x hx;omega
 ·have:=a2 x hx;omega
 ·have:=a1 x hx;omega
 ·have:=a2 x hx;omega
 ·have:=hM x hx;omega
theorem agO_g {e f:En} (h:agO e f=true):agG e.1.1 e.1.2 e.2.1.1 e.2.1.2 f.1.1 f.1.2 f.2.1.1 f.2.1.2=true:=by
 unfold agO agZ at h
 split at h
 ·rename_i hg;exact hg
 ·cases h
theorem agP_ok {e f:En} (h:agO e f=true):okPn (agP e f):=by
 have hg:=agO_g h
 have hA:=ag_start hg
 have hP:=hA.parts
 have h0:(eqT (meetL e.1.1 f.1.1) (carL e.1.1 e.1.2 (meetL e.1.1 f.1.1) (e.1.2&&f.1.2) e.2.1.1 e.2.1.2) (carL f.1.1 f.1.2 (meetL e.1.1 f.1.1) (e.1.2&&f.1.2) f.2.1.1 f.2.1.2)).2=true:=by
  have:=h
  unfold agO agZ at this
  rw [if_pos hg] at this
  exact this
 unfold okPn agP
 rw [h,Bool.true_and]
 unfold agZ
 rw [if_pos hg]
 unfold eqT at h0 ⊢
 split at h0
 ·rename_i hl
  rw [if_pos hl]
  exact eqz_check _ _ _ _ (hA.es hl) fix_checkP hP.1 h0
 ·cases h0
theorem agP_sz {e f:En} (he:InvE e) (hf:InvE f) (h:agO e f=true):szN 2280 (agP e f):=by
 have hg:=agO_g h
 obtain ⟨h1,h2,h3⟩:=ag_sz he hf hg
 have hA:=ag_start hg
 intro x hx
 have hx:x∈(agZ e.1.1 e.1.2 e.2.1.1 e.2.1.2 f.1.1 f.1.2 f.2.1.1 f.2.1.2).1:=hx
 unfold agZ at hx
 rw [if_pos hg] at hx
 unfold eqT at hx
 split at hx
 ·rename_i hl
  exact eqz_fine (B:=1840) (T:=440) _ _ _ _ (hA.es hl) h1 h2 (fun y hy=>by have:=h3 y hy;omega) x hx
 ·cases hx
theorem agP_szP {e f:En} (he:InvE e) (hf:InvE f) (h:agO e f=true):szP (agP e f):=szP_of (agP_ok h) (agP_sz he hf h) (by omega)
theorem agR_sz {e f:En} (he:InvE e) (hf:InvE f) (h:agO e f=true):szR 2280 (agP e f,redH (agP e f) (e.2.2++f.2.2)) :=
 ⟨agP_sz he hf h,redH_sz (agP_sz he hf h) fun q hq=>by
  rcases List.mem_append.1 hq with hq|hq
  ·exact szN_up (he.ho q hq) (by omega)
  ·exact szN_up (hf.ho q hq) (by omega)⟩
theorem rst_sz {g:Rg} {e x:En} (he:InvE e) (hg:szR 2280 g) (hx:rstO g e=some x):okEn x∧szE 2400 x:=by
 unfold rstO at hx
 split at hx
 ·rename_i ho
  obtain ⟨e1,e2,e3,e4⟩:=putO_ok hx (nr_ok ho)
  have hL:szN 2280 (nrL e.1 e.2.1 g.1):=(nw_sz (M:=80) (szN_up he.lf (by omega)) he.rt hg.1).1
  refine ⟨e4,?_,?_,?_⟩
  ·rw [e1];exact szN_up hL (by omega)
  ·rw [e2];exact szN_up ((he.ln.next ho).sz hL) (by omega)
  ·rw [e3]
   refine fun y hy=>szN_up (redH_sz hL (fun q hq=>?_) y hy) (by omega)
   rcases List.mem_append.1 hq with hq|hq
   ·exact szN_up (he.ho q hq) (by omega)
   ·exact hg.2 q hq
 ·cases hx
theorem okM_rst {g:Rg} {m:List En} (h:∀ e∈m,InvE e) (hg:szR 2280 g) (hr:rstE g m=0):okM (rstC g m).1 :=
 ⟨fun x hx=>by
  rw [(rst_list hr).2.1] at hx
  obtain ⟨e,he,ho⟩:=List.mem_filterMap.1 hx
  exact rst_sz (h e he) hg ho,rstC_len g m⟩
open Pm
theorem prI_at {α:Type} {a b:List α} {j k:Nat} {e f:α} (hj:a[j]? = some e) (hk:b[k]? = some f):j * b.length+k<a.length * b.length∧prI a b (j * b.length+k)=some (e,f):=by
 have h1:=(sI.1 hj).1
 have h2:=(sI.1 hk).1
 refine ⟨Nat.lt_of_lt_of_le (Nat.add_lt_add_left h2 _) ?_,?_⟩
 ·rw [←Nat.succ_mul]
  exact Nat.mul_le_mul_right _ h1
 ·unfold prI
  have e1:(j * b.length+k) / b.length=j:=by rw [Nat.add_comm,Nat.add_mul_div_right _ _ (by omega),Nat.div_eq_of_lt h2,Nat.zero_add]
  have e2:(j * b.length+k) % b.length=k:=by rw [Nat.add_comm,Nat.add_mul_mod_self_right,Nat.mod_eq_of_lt h2]
  rw [e1,e2,hj,hk]
theorem prA_false {α:Type} {p:α→α→Bool} {a b:List α} (h:prA p a b=false) {e f:α} (he:e∈a) (hf:f∈b):p e f=false:=by
 obtain ⟨j,hj⟩:=List.mem_iff_getElem?.1 he
 obtain ⟨k,hk⟩:=List.mem_iff_getElem?.1 hf
 obtain ⟨h1,h2⟩:=prI_at hj hk
 cases hp:p e f with
 | false=>rfl
 | true=>rw [prA_yes h1 h2 hp] at h;cases h
theorem prI_mem {α:Type} {a b:List α} {q:Nat} {e f:α} (h:prI a b q=some (e,f)):a[q / b.length]? = some e∧b[q % b.length]? = some f:=by
 unfold prI at h
 split at h
 ·rename_i e' f' h1 h2
  cases h
  exact ⟨h1,h2⟩
 ·cases h
def agX (e f:En):Option Rg:=if (agO e f&&!voidF (agP e f) (redH (agP e f) (e.2.2++f.2.2)))=true then some (agP e f,redH (agP e f) (e.2.2++f.2.2)) else none
def agQ (a b:List En) (q:Nat):Option Rg:=match prI a b q with|some x=>agX x.1 x.2|none=>none
theorem agS_O (s:List Rg×Bool) (e f:En):agS s e f=addO s (agX e f):=by
 unfold agS agX
 split<;>rfl
theorem chk2 {a b:List En} (h:chkMs [a,b]=0):chkM a=0∧chkM b=0:=by
 have e:chkMs [a,b]=if chkM a=0 then (if chkM b=0 then 0 else chkM b) else chkM a:=rfl
 rw [e] at h
 by_cases h1:chkM a=0
 ·rw [if_pos h1] at h
  by_cases h2:chkM b=0
  ·exact ⟨h1,h2⟩
  ·rw [if_neg h2] at h;exact absurd h h2
 ·rw [if_neg h1] at h;exact absurd h h1
theorem agr_list {a b:List En} (h:agrE a b=0):chkM a=0∧chkM b=0∧(agrL a b).1=(List.range (a.length * b.length)).filterMap (agQ a b)∧∀ e∈a,∀ f∈b,agB e f=false:=by
 unfold agrE at h
 by_cases h1:chkMs [a,b]=0
 ·rw [if_pos h1] at h
  by_cases h2:prA agB a b=true
  ·rw [if_pos h2] at h;cases h
  ·rw [if_neg h2] at h
   by_cases h3:(agrL a b).2=true
   ·rw [if_pos h3] at h;cases h
   ·refine ⟨(chk2 h1).1,(chk2 h1).2,?_,fun e he f hf=>prA_false (by simpa using h2) he hf⟩
    have e1:agrL a b=(List.range (a.length * b.length)).foldl (fun s q=>addO s (agQ a b q)) ([],false):=by
     unfold agrL agC prC
     congr 1
     funext s q
     unfold agQ
     cases prI a b q with
     | none=>rfl
     | some x=>exact agS_O s x.1 x.2
    rw [e1] at h3 ⊢
    have:=(foldO (agQ a b) _ ([],false) (by simpa using h3)).2
    rw [this,List.nil_append]
 ·rw [if_neg h1] at h;exact absurd h h1
theorem ag_fwd {e f:En} {c:ByteArray} (hb:agB e f=false):(fO e.1 e.2.1 c&&(fO f.1 f.2.1 c&&decide (fT e.1 e.2.1 c=fT f.1 f.2.1 c)))=(agO e f&&mt (agP e f) c):=by
 unfold agB at hb
 rw [Bool.or_eq_false_iff] at hb
 have he:agN e f=0:=by simpa using hb.1
 have h:=ag_means (p:=c) he
 unfold fO fT
 rw [h]
 unfold mt agP
 cases ho:agO e f with
 | false =>
  have:(agZ e.1.1 e.1.2 e.2.1.1 e.2.1.2 f.1.1 f.1.2 f.2.1.1 f.2.1.2).2=false:=ho
  rw [this]
  rfl
 | true =>
  have:(agZ e.1.1 e.1.2 e.2.1.1 e.2.1.2 f.1.1 f.1.2 f.2.1.1 f.2.1.2).2=true:=ho
  rw [this]
  rfl
theorem agX_in {e f:En} {c:ByteArray} (ke:okEn e) (kf:okEn f) (hb:agB e f=false):(∃ g,agX e f=some g∧inR g c=true)↔∃ s,relN e c s∧relN f c s:=by
 have hw:=ag_fwd (c:=c) hb
 constructor
 ·rintro ⟨g,hg,hi⟩
  unfold agX at hg
  split at hg
  ·rename_i hc
   cases hg
   rw [Bool.and_eq_true] at hc
   rw [inR_red] at hi
   unfold inR at hi
   rw [Bool.and_eq_true,List.any_append,Bool.not_or,Bool.and_eq_true] at hi
   rw [hc.1,hi.1] at hw
   simp only [Bool.and_self,Bool.and_eq_true,decide_eq_true_eq] at hw
   obtain ⟨w1,w2,w3⟩:=hw
   refine ⟨fT e.1 e.2.1 c,⟨?_,w1,rfl⟩,⟨?_,w2,w3.symm⟩⟩
   ·unfold inR
    rw [←fO_mt ke.1,w1,hi.2.1]
    rfl
   ·unfold inR
    rw [←fO_mt kf.1,w2,hi.2.2]
    rfl
  ·cases hg
 ·rintro ⟨s,⟨a1,a2,a3⟩,b1,b2,b3⟩
  rw [a2,b2,a3,b3,decide_eq_true rfl] at hw
  have hw2:agO e f=true∧mt (agP e f) c=true:=by
   have:=hw.symm
   simpa using this
  have hi:inR (agP e f,redH (agP e f) (e.2.2++f.2.2)) c=true:=by
   rw [inR_red]
   unfold inR at a1 b1 ⊢
   rw [Bool.and_eq_true] at a1 b1
   rw [hw2.2,List.any_append,Bool.not_or]
   simp only at a1 b1
   rw [a1.2,b1.2]
   rfl
  refine ⟨_,?_,hi⟩
  unfold agX
  rw [if_pos]
  rw [hw2.1,Bool.true_and]
  cases hv:voidF (agP e f) (redH (agP e f) (e.2.2++f.2.2)) with
  | false=>rfl
  | true =>
   exfalso
   have:=voidF_sound (fun h hh=>redH_ok h hh) (agP_ok hw2.1) hv hw2.2
   unfold inR at hi
   rw [Bool.and_eq_true] at hi
   simp only at hi
   rw [this] at hi
   exact absurd hi.2 (by decide)
theorem cmn_none {g k:Rg} {c:ByteArray} (hg:okRg g) (hk:okRg k) (h:cmnF g k=false):(inR g c&&inR k c)=false:=by
 unfold cmnF at h
 cases hm:metO g.1 k.1 with
 | false =>
  have:=met_no hm c
  unfold inR
  cases h1:mt g.1 c<;>cases h2:mt k.1 c<;>simp_all
 | true =>
  rw [hm,Bool.true_and] at h
  have hv:voidF (met g.1 k.1) (g.2++k.2)=true:=by simpa using h
  cases hc:inR g c&&inR k c with
  | false=>rfl
  | true =>
   exfalso
   rw [Bool.and_eq_true] at hc
   unfold inR at hc
   rw [Bool.and_eq_true,Bool.and_eq_true] at hc
   obtain ⟨⟨a1,a2⟩,b1,b2⟩:=hc
   have:=voidF_sound (b:=met g.1 k.1) (hs:=g.2++k.2) (fun h hh=>by
    rcases List.mem_append.1 hh with hh|hh
    ·exact hg.2.1 h hh
    ·exact hk.2.1 h hh) (met_ok hm) hv (s:=c) (by rw [met_mt hm,a1,b1];rfl)
   rw [List.any_append,Bool.or_eq_true] at this
   rcases this with h9|h9
   ·rw [h9] at a2;cases a2
   ·rw [h9] at b2;cases b2
theorem chk_ovl {m:List En} (h:chkM m=0):ovl m=false:=by
 unfold chkM at h
 by_cases h1:rgtsE m=true
 ·rw [if_pos h1] at h;cases h
 ·rw [if_neg h1] at h
  by_cases h2:ovl m=true
  ·rw [if_pos h2] at h;cases h
  ·simpa using h2
theorem ovl_pair {m:List En} (h:ovl m=false) {i j:Nat} {e f:En} (hij:j<i) (he:m[i]? = some e) (hf:m[j]? = some f):badE e f=false:=by
 unfold ovl at h
 rw [List.any_eq_false] at h
 have h1:=h i (List.mem_range.2 (sI.1 he).1)
 unfold ovlI at h1
 rw [Bool.not_eq_true,List.any_eq_false] at h1
 have h2:=h1 j (List.mem_range.2 hij)
 rw [he,hf] at h2
 simpa using h2
theorem one_entry {m:List En} (hok:∀ e∈m,okEn e) (h:chkM m=0) {i j:Nat} {e f:En} {c:ByteArray} (he:m[i]? = some e) (hf:m[j]? = some f) (h1:inR (e.1,e.2.2) c=true) (h2:inR (f.1,f.2.2) c=true):i=j:=by
 have key:∀ {i j:Nat} {e f:En},m[i]? = some e→m[j]? = some f→inR (e.1,e.2.2) c=true→inR (f.1,f.2.2) c=true→¬ j<i:=by
  intro i j e f he hf h1 h2 hlt
  have:=ovl_pair (chk_ovl h) hlt he hf
  unfold badE at this
  rw [Bool.or_eq_false_iff] at this
  have h3:=cmn_none (c:=c) (lfR_ok (hok e (mG he))) (lfR_ok (hok f (mG hf))) this.1
  unfold lfR at h3
  rw [h1,h2] at h3
  cases h3
 have a:=key he hf h1 h2
 have b:=key hf he h2 h1
 omega
theorem cnt_one {α β:Type} (F:α→Option β) (P:β→Bool):∀ (L:List α),L.Nodup→(∀ x∈L,∀ y∈L,∀ g h,F x=some g→F y=some h→P g=true→P h=true→x=y) →
 ((L.filterMap F).filter P).length≤1∧(((L.filterMap F).filter P).length=1↔∃ x∈L,∃ g,F x=some g∧P g=true)
 | [],_,_=>⟨by simp,by simp⟩
 | x::L,hd,hu=>by
  obtain ⟨hx,hd⟩:=List.nodup_cons.1 hd
  have ih:=cnt_one F P L hd fun a ha b hb=>hu a (List.mem_cons_of_mem _ ha) b (List.mem_cons_of_mem _ hb)
  have skip:(∀ g,F x=some g→P g=false)→((x::L).filterMap F).filter P=(L.filterMap F).filter P:=by
   intro hn
   rw [List.filterMap_cons]
   cases hF:F x with
   | none=>rfl
   | some g=>rw [List.filter_cons_of_neg (by rw [hn g hF];decide)]
  by_cases hp:∃ g,F x=some g∧P g=true
  ·obtain ⟨g,hF,hP⟩:=hp
   have hnil:(L.filterMap F).filter P=[]:=by
    rw [List.eq_nil_iff_forall_not_mem]
    intro h hh
    obtain ⟨h1,h2⟩:=List.mem_filter.1 hh
    obtain ⟨y,hy,hFy⟩:=List.mem_filterMap.1 h1
    exact hx (hu x List.mem_cons_self y (List.mem_cons_of_mem _ hy) g h hF hFy hP h2▸hy)
   rw [List.filterMap_cons,hF]
   dsimp only
   rw [List.filter_cons_of_pos hP,hnil]
   exact ⟨by simp,⟨fun _=>⟨x,List.mem_cons_self,g,hF,hP⟩,fun _=>rfl⟩⟩
  ·rw [skip fun g hF=>by
    cases h:P g with
    | false=>rfl
    | true=>exact absurd ⟨g,hF,h⟩ hp]
   refine ⟨ih.1,ih.2.trans ⟨fun ⟨y,hy,hr⟩=>⟨y,List.mem_cons_of_mem _ hy,hr⟩,fun ⟨y,hy,hr⟩=>?_⟩⟩
   rcases List.mem_cons.1 hy with rfl|hy
   ·exact absurd hr hp
   ·exact ⟨y,hy,hr⟩
theorem rst_for {a:List En} {g:Rg} {c:ByteArray} (ha:okM a) (hr:rstE g a=0) (hc:chkM (rstC g a).1=0) (hok:∀ e∈(rstC g a).1,okEn e):(forM (rstC g a).1 c).2=true↔(∃ s,relE a c s)∧inR g c=true:=by
 have hf:=forL_rel (s:=c) hok
 unfold forM
 rw [if_pos hc]
 constructor
 ·intro h
  have:=(rst_rel ha hr).1 (hf.1 h)
  exact ⟨⟨_,this.1⟩,this.2⟩
 ·rintro ⟨⟨s,h1⟩,h2⟩
  cases h:(forL (rstC g a).1 c).2 with
  | true=>rfl
  | false=>exact absurd ((rst_rel ha hr).2 ⟨h1,h2⟩) ((hf.2 h).2 s)
theorem agree_count {a b:List En} (ha:okM a) (hb:okM b) (h:agrE a b=0) (c:ByteArray) (hr:∀ g∈(agrL a b).1,rstE g a=0∧chkM (rstC g a).1=0∧∀ e∈(rstC g a).1,okEn e) :
 ((agrL a b).1.filter fun g=>(forM (rstC g a).1 c).2).length≤1∧(((agrL a b).1.filter fun g=>(forM (rstC g a).1 c).2).length=1↔∃ s,relE a c s∧relE b c s):=by
 obtain ⟨c1,c2,hl,hB⟩:=agr_list h
 have hP:∀ q g,agQ a b q=some g→∃ e f,prI a b q=some (e,f)∧e∈a∧f∈b∧agX e f=some g:=by
  intro q g hq
  unfold agQ at hq
  cases hp:prI a b q with
  | none=>rw [hp] at hq;cases hq
  | some x =>
   rw [hp] at hq
   obtain ⟨e,f⟩:=x
   obtain ⟨m1,m2⟩:=prI_mem hp
   exact ⟨e,f,rfl,mG m1,mG m2,hq⟩
 have hin:∀ g∈(agrL a b).1,(forM (rstC g a).1 c).2=inR g c:=by
  intro g hg
  obtain ⟨r1,r2,r3⟩:=hr g hg
  rw [Bool.eq_iff_iff,rst_for ha r1 r2 r3]
  refine ⟨fun h=>h.2,fun hi=>⟨?_,hi⟩⟩
  rw [hl] at hg
  obtain ⟨q,hq,hQ⟩:=List.mem_filterMap.1 hg
  obtain ⟨e,f,hp,he,hf,hx⟩:=hP q g hQ
  obtain ⟨s,h1,h2⟩:=(agX_in (c:=c) (ha.1 e he).1 (hb.1 f hf).1 (hB e he f hf)).1 ⟨g,hx,hi⟩
  exact ⟨s,e,he,h1⟩
 have hfc:((agrL a b).1.filter fun g=>(forM (rstC g a).1 c).2)=(agrL a b).1.filter fun g=>inR g c:=List.filter_congr hin
 rw [hfc,hl]
 obtain ⟨k1,k2⟩:=cnt_one (agQ a b) (fun g=>inR g c) (List.range (a.length * b.length)) List.nodup_range (fun x hx y hy g h' hg hh' i1 i2=>by
  obtain ⟨e,f,hp,he,hf,hX⟩:=hP x g hg
  obtain ⟨e',f',hp',he',hf',hX'⟩:=hP y h' hh'
  obtain ⟨s,r1,r2⟩:=(agX_in (c:=c) (ha.1 e he).1 (hb.1 f hf).1 (hB e he f hf)).1 ⟨g,hX,i1⟩
  obtain ⟨s',r1',r2'⟩:=(agX_in (c:=c) (ha.1 e' he').1 (hb.1 f' hf').1 (hB e' he' f' hf')).1 ⟨h',hX',i2⟩
  obtain ⟨m1,m2⟩:=prI_mem hp
  obtain ⟨m1',m2'⟩:=prI_mem hp'
  have d:=one_entry (fun e he=>(ha.1 e he).1) c1 m1 m1' r1.1 r1'.1
  have m:=one_entry (fun e he=>(hb.1 e he).1) c2 m2 m2' r2.1 r2'.1
  rw [←Nat.div_add_mod x b.length,← Nat.div_add_mod y b.length,d,m])
 refine ⟨k1,k2.trans ⟨?_,?_⟩⟩
 ·rintro ⟨q,hq,g,hg,hi⟩
  obtain ⟨e,f,hp,he,hf,hX⟩:=hP q g hg
  obtain ⟨s,r1,r2⟩:=(agX_in (c:=c) (ha.1 e he).1 (hb.1 f hf).1 (hB e he f hf)).1 ⟨g,hX,hi⟩
  exact ⟨s,⟨e,he,r1⟩,f,hf,r2⟩
 ·rintro ⟨s,⟨e,he,r1⟩,f,hf,r2⟩
  obtain ⟨g,hX,hi⟩:=(agX_in (c:=c) (ha.1 e he).1 (hb.1 f hf).1 (hB e he f hf)).2 ⟨s,r1,r2⟩
  obtain ⟨j,hj⟩:=List.mem_iff_getElem?.1 he
  obtain ⟨k,hk⟩:=List.mem_iff_getElem?.1 hf
  obtain ⟨q1,q2⟩:=prI_at hj hk
  refine ⟨_,List.mem_range.2 q1,g,?_,hi⟩
  unfold agQ
  rw [q2]
  exact hX
end Go.Proofs.YtelkmeiepliecaaGreatDoor
