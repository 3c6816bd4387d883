/-
  Part 16 of the proof.
-/
import Derived.Test.YtelkmeiepliecaaGreatDoorU15
set_option linter.unusedSimpArgs false
set_option linter.unusedVariables false
set_option maxHeartbeats 16000000
namespace Go.Proofs.YtelkmeiepliecaaGreatDoor
open Go.RowKit
open Pm
def starT:ByteArray:=⟨#[42]⟩
def witC (ys:List ByteArray) (i:Nat) (x:ByteArray):ByteArray:=if stB x=true then (if ys[i]? = some (⟨#[81]⟩++tlB x) then ⟨#[82]⟩++tlB x else ⟨#[81]⟩++tlB x) else x
def witAt (xs ys:List ByteArray) (i:Nat):ByteArray:=witC ys i (xs[i]?.getD starT)
def witL (xs ys:List ByteArray) (k:Nat):List ByteArray:=(List.range k).map (witAt xs ys)
theorem witL_len (xs ys:List ByteArray) (k:Nat):(witL xs ys k).length=k:=by simp [witL]
theorem witL_get {xs ys:List ByteArray} {k i:Nat} (h:i<k):(witL xs ys k)[i]? = some (witAt xs ys i):=by
 unfold witL
 rw [List.getElem?_map,List.getElem?_range h]
 rfl
theorem starT_st:stB starT=true:=by decide
theorem starT_tl:tlB starT=⟨#[]⟩:=by decide
theorem comp_q {l:List UInt8} (h:l.all isB=true):comp (81::l)=true∧comp (82::l)=true:=by
 unfold comp
 simp only [List.all_cons,h]
 exact ⟨by decide,by decide⟩
theorem witC_comp {ys:List ByteArray} {i:Nat} {x:ByteArray} (hx:partB x=true):comp (witC ys i x).data.toList=true:=by
 unfold witC
 cases hs:stB x with
 | false=>rw [if_neg (by decide)];exact part_name hx hs
 | true =>
  have ht:=comp_q (star_tail hx hs)
  rw [if_pos rfl]
  split
  ·rw [app_data];exact ht.2
  ·rw [app_data];exact ht.1
theorem witC_own {ys:List ByteArray} {i:Nat} {x:ByteArray}:mpOk x (witC ys i x)=true:=by
 unfold witC
 cases hs:stB x with
 | false=>rw [if_neg (by decide),mp_lit hs]
 | true =>
  rw [if_pos rfl,mp_star hs]
  split
  ·exact ⟨[82],by simp,by rw [app_data]⟩
  ·exact ⟨[81],by simp,by rw [app_data]⟩
theorem app_cancel {c d:UInt8} {t:ByteArray} (h:(⟨#[c]⟩:ByteArray)++t=⟨#[d]⟩++t):c=d:=by
 have:=congrArg (fun z:ByteArray=>z.data.toList) h
 simp only [app_data] at this
 simpa using this
theorem witC_ins {ys:List ByteArray} {i:Nat} {x y:ByteArray} (hy:ys[i]? = some y) (hm:mpOk y (witC ys i x)=true):insB x y=true:=by
 unfold insB
 by_cases he:x=y
 ·rw [if_pos he]
 rw [if_neg he]
 unfold witC at hm
 cases hx:stB x with
 | false =>
  rw [hx,if_neg (by decide)] at hm
  cases hsy:stB y with
  | false=>exact absurd ((mp_lit hsy).1 hm).symm he
  | true=>rw [if_neg (by decide),if_neg (by decide)];exact hm
 | true =>
  rw [hx,if_pos rfl] at hm
  cases hsy:stB y with
  | false =>
   exfalso
   have e:=(mp_lit hsy).1 hm
   rw [hy] at e
   by_cases hq:some y=some (⟨#[81]⟩++tlB x)
   ·rw [if_pos hq] at e
    have h1:=Option.some.inj hq
    rw [h1] at e
    have:=app_cancel e
    revert this
    decide
   ·rw [if_neg hq] at e
    exact hq (by rw [e])
  | true =>
   rw [if_neg (by decide),if_pos rfl,suf_iff]
   obtain ⟨a,ha,e⟩:=(mp_star hsy).1 hm
   have key:∀ c:UInt8,(⟨#[c]⟩++tlB x:ByteArray).data.toList=a++(tlB y).data.toList→(tlB y).data.toList <:+ (tlB x).data.toList:=by
    intro c hc
    rw [app_data] at hc
    cases a with
    | nil=>exact absurd rfl ha
    | cons d a =>
     have:(tlB x).data.toList=a++(tlB y).data.toList:=(List.cons.inj (show c::(tlB x).data.toList=d::(a++(tlB y).data.toList) from hc)).2
     exact ⟨a,this.symm⟩
   split at e
   ·exact key _ e
   ·exact key _ e
theorem witAt_lo {xs ys:List ByteArray} {i:Nat} {x:ByteArray} (h:xs[i]? = some x):witAt xs ys i=witC ys i x:=by
 unfold witAt
 rw [h]
 rfl
theorem starT_part:partB starT=true:=by decide
theorem wit_comp {xs ys:List ByteArray} (hp:∀ x∈xs,partB x=true) (i:Nat):comp (witAt xs ys i).data.toList=true:=by
 unfold witAt
 refine witC_comp ?_
 cases h:xs[i]? with
 | none=>exact starT_part
 | some x=>exact hp x (mG h)
theorem witL_comps {xs ys:List ByteArray} (hp:∀ x∈xs,partB x=true) (k:Nat):∀ y∈witL xs ys k,comp y.data.toList=true:=by
 intro y hy
 unfold witL at hy
 obtain ⟨i,_,rfl⟩:=List.mem_map.1 hy
 exact wit_comp hp i
def witP (xs ys:List ByteArray) (n:Nat):ByteArray:=joinB (witL xs ys (xs.length+n))
theorem wit_path {xs ys:List ByteArray} {r:Bool} {n:Nat} (hc:checkP xs r=0) (hn:(r=false→n=0)∧(r=true→0<n)) :
 pathOk (witP xs ys n).data.toList=true∧compsB (witP xs ys n)=witL xs ys (xs.length+n):=by
 have cz:=check_zero hc
 have hp:=parts_all cz.2.2
 have h2:2≤xs.length+n:=by
  cases r with
  | true=>have:=hn.2 rfl;omega
  | false =>
   apply Classical.byContradiction
   intro k
   have:=hn.1 rfl
   rw [check_short (.inr ⟨by omega,rfl⟩)] at hc
   cases hc
 have hne:witL xs ys (xs.length+n)≠[]:=by
  intro e
  have:=witL_len xs ys (xs.length+n)
  rw [e] at this
  simp at this
  omega
 exact ⟨joinB_path (by rw [witL_len];exact h2) (witL_comps hp _),joinB_comps hne (witL_comps hp _)⟩
theorem wit_own {xs ys:List ByteArray} {r:Bool} {n:Nat} (hc:checkP xs r=0) (hn:(r=false→n=0)∧(r=true→0<n)):matchOk mpOk xs r (witP xs ys n)=true:=by
 obtain ⟨h1,h2⟩:=wit_path (ys:=ys) hc hn
 unfold matchOk
 rw [h1,hc,h2,lens_iff.2 ⟨by rw [witL_len];omega,fun e=>by rw [witL_len];have:=hn.2 e;omega,fun e=>by rw [witL_len];have:=hn.1 e;omega⟩]
 simp only [Bool.true_and,BEq.rfl]
 rw [ok_iff]
 intro k x y hx hy
 have hk:=(sI.1 hx).1
 rw [witL_get (by omega),witAt_lo hx] at hy
 rw [←Option.some.inj hy]
 exact witC_own
def witLo (r:Bool):Nat:=if r=true then 1 else 0
def witHi (r:Bool):Nat:=if r=true then 13 else 0
theorem wit_in {r:Bool} {n:Nat} (h1:witLo r≤n) (h2:n≤witHi r):(r=false→n=0)∧(r=true→0<n):=by
 unfold witLo at h1
 unfold witHi at h2
 refine ⟨fun e=>?_,fun e=>?_⟩
 ·rw [e,if_neg (by decide)] at h2;omega
 ·rw [e,if_pos rfl] at h1;omega
theorem wit_within {xs ys:List ByteArray} {r t:Bool} (hx:checkP xs r=0) (hy:checkP ys t=0) :
 withinOk insB xs ys r t=true↔∀ n,witLo r≤n→n≤witHi r→matchOk mpOk ys t (witP xs ys n)=true:=by
 constructor
 ·intro h n h1 h2
  exact within_means h (wit_own hx (wit_in h1 h2))
 ·intro h
  have key:∀ n,witLo r≤n→n≤witHi r→lensOk ys.length (xs.length+n) t=true∧okOf mpOk (ys.zip (witL xs ys (xs.length+n)))=true:=by
   intro n h1 h2
   have hm:=h n h1 h2
   unfold matchOk at hm
   rw [(wit_path hx (wit_in h1 h2)).2,witL_len,Bool.and_eq_true,Bool.and_eq_true] at hm
   exact ⟨hm.1.2,hm.2⟩
  have hlen:lensIn xs.length ys.length r t=true:=by
   unfold lensIn
   cases r with
   | false =>
    obtain ⟨l1,l2,l3⟩:=lens_lo (key 0 (by decide) (by decide)).1
    cases t with
    | true=>have:=l2 rfl;simp;omega
    | false=>have:=l3 rfl;simp;omega
   | true =>
    obtain ⟨l1,l2,l3⟩:=lens_lo (key 1 (by decide) (by decide)).1
    cases t with
    | true=>have:=l2 rfl;simp;omega
    | false =>
     exfalso
     have a1:=l3 rfl
     have a2:=(lens_lo (key 13 (by decide) (by decide)).1).2.2 rfl
     omega
  have hle:=lensIn_le hlen
  unfold withinOk insideOk
  rw [hx,hy,hlen]
  simp only [Bool.true_and,BEq.rfl]
  have hw:witLo r≤witHi r:=by unfold witLo witHi;cases r<;>decide
  have ho:=(key (witLo r) (Nat.le_refl _) hw).2
  rw [ok_iff] at ho ⊢
  intro i x y hxi hyi
  have hi:i<xs.length:=(sI.1 hxi).1
  have:=ho i y _ hyi (witL_get (by omega))
  rw [witAt_lo hxi] at this
  exact witC_ins hyi this
open Go.RowKit
open Pm
theorem fwd_mk {xs ys cs l m:List ByteArray} {r t:Bool} (h0:ruleE xs r ys t=0) (h:Fil xs r cs l) (k:Fil ys t cs m):fwdO xs r ys t (joinB l)=true∧fwdT xs r ys t (joinB l)=joinB m:=by
 have hz:=ruleE_zero.1 h0
 have f1:=fil_fill hz.1 h
 have f2:=fil_fill hz.2.1 k
 have hx:mxB xs r (joinB l)=cs:=by unfold mxB;rw [if_pos f1.2.2.1];exact f1.2.2.2.1
 constructor
 ·unfold fwdO trO
  rw [h0,f1.2.2.1,hx,f2.1]
  rfl
 ·unfold fwdT trT
  rw [if_pos h0,if_pos f1.2.2.1,hx,f2.2.1]
theorem fwd_of {xs ys:List ByteArray} {r t:Bool} {s:ByteArray} (h:fwdO xs r ys t s=true):ruleE xs r ys t=0∧∃ cs l m,Fil xs r cs l∧Fil ys t cs m∧s=joinB l∧compsB s=l∧fwdT xs r ys t s=joinB m:=by
 unfold fwdO trO at h
 rw [Bool.and_eq_true,Bool.and_eq_true,beq_iff_eq,beq_iff_eq] at h
 obtain ⟨h0,hm,hf⟩:=h
 obtain ⟨hn,h1,h2⟩:=match_fil hm
 have hx:mxB xs r s=capsB stB mpCap xs r s:=by unfold mxB;rw [if_pos hm]
 rw [hx] at hf
 obtain ⟨_,m,hmm⟩:=fill_fil hf
 refine ⟨h0,_,_,m,h1,hmm,h2.symm,rfl,?_⟩
 have:=(fwd_mk h0 h1 hmm).2
 rw [h2] at this
 exact this
theorem fwd_no {xs ys:List ByteArray} {r t:Bool} {s:ByteArray} (h:fwdO xs r ys t s=false):fwdT xs r ys t s=⟨#[]⟩:=by
 unfold fwdO trO at h
 unfold fwdT trT
 by_cases h0:ruleE xs r ys t=0
 ·rw [if_pos h0]
  rw [h0] at h
  simp only [BEq.rfl,Bool.true_and] at h
  cases hm:matchOk mpOk xs r s with
  | false=>rw [if_neg (by decide)]
  | true =>
   rw [hm,Bool.true_and,beq_eq_false_iff_ne] at h
   rw [if_pos rfl]
   unfold fillT
   rw [if_neg h]
 ·rw [if_neg h0]
theorem fwd_match {xs ys:List ByteArray} {r t:Bool} {s:ByteArray} (h0:ruleE xs r ys t=0):fwdO xs r ys t s=matchOk mpOk xs r s:=by
 have hz:=ruleE_zero.1 h0
 have hrt:=hz.2.2.2
 subst hrt
 cases hm:matchOk mpOk xs r s with
 | true =>
  obtain ⟨hn,h1,h2⟩:=match_fil hm
  obtain ⟨m,hmm⟩:=h1.kinds hz.2.2.1
  have:=(fwd_mk h0 h1 hmm).1
  rw [h2] at this
  exact this
 | false =>
  unfold fwdO trO
  rw [hm]
  simp
theorem fil_match {xs cs l:List ByteArray} {r:Bool} (hn:checkP xs r=0) (h:Fil xs r cs l):matchOk mpOk xs r (joinB l)=true:=(fil_fill hn h).2.2.1
def cntB (bs:List (List ByteArray×Bool)):Nat:=(bs.map (fun p=>countB stB p.1)).sum
def lastQ (bs:List (List ByteArray×Bool)):Bool:=(bs.getLastD ([],false)).2
theorem count_one (st:ByteArray→Bool) (x:ByteArray):countB st [x]=if st x=true then 1 else 0:=by
 rw [count_cons]
 simp [countB]
theorem cntB_cons (p:List ByteArray×Bool) (bs:List (List ByteArray×Bool)):cntB (p::bs)=countB stB p.1+cntB bs:=by simp [cntB]
theorem Sb.count:∀ {xs ys:List ByteArray} {r t:Bool} {bs:List (List ByteArray×Bool)},Sb xs r bs ys t→countB stB ys=cntB bs
 | [],ys,false,t,bs,h=>by obtain ⟨rfl,rfl,_⟩:=h;rfl
 | [],ys,true,t,bs,h=>by obtain ⟨rfl,_,_⟩:=h;simp [cntB]
 | x::xs,ys,r,t,bs,h=>by
  by_cases hs:stB x=true
  ·rw [Sb.star hs] at h
   obtain ⟨z,bs',ys',rfl,hz,rfl,h2⟩:=h
   rw [count_cons,cntB_cons,Sb.count h2,st_app (part_pos hz),count_one]
  ·have hs':stB x=false:=by simpa using hs
   rw [Sb.lit hs'] at h
   obtain ⟨ys',rfl,h2⟩:=h
   rw [count_cons,if_neg hs,Sb.count h2,Nat.zero_add]
theorem Sb.ne:∀ {xs ys:List ByteArray} {t:Bool} {bs:List (List ByteArray×Bool)},Sb xs true bs ys t→bs≠[]∧t=lastQ bs
 | [],ys,t,bs,h=>by obtain ⟨rfl,_,_⟩:=h;exact ⟨by simp,rfl⟩
 | x::xs,ys,t,bs,h=>by
  by_cases hs:stB x=true
  ·rw [Sb.star hs] at h
   obtain ⟨z,bs',ys',rfl,hz,rfl,h2⟩:=h
   obtain ⟨h3,h4⟩:=Sb.ne h2
   refine ⟨by simp,?_⟩
   rw [h4]
   unfold lastQ
   cases bs' with
   | nil=>exact absurd rfl h3
   | cons p bs'=>simp [List.getLastD]
  ·have hs':stB x=false:=by simpa using hs
   rw [Sb.lit hs'] at h
   obtain ⟨ys',rfl,h2⟩:=h
   exact Sb.ne h2
theorem Sb.plain:∀ {xs ys:List ByteArray} {t:Bool} {bs:List (List ByteArray×Bool)},Sb xs false bs ys t→t=false
 | [],ys,t,bs,h=>h.2.2
 | x::xs,ys,t,bs,h=>by
  by_cases hs:stB x=true
  ·rw [Sb.star hs] at h
   obtain ⟨z,bs',ys',rfl,hz,rfl,h2⟩:=h
   exact Sb.plain h2
  ·have hs':stB x=false:=by simpa using hs
   rw [Sb.lit hs'] at h
   obtain ⟨ys',rfl,h2⟩:=h
   exact Sb.plain h2
theorem Sb.rest {xs ys xs' ys':List ByteArray} {r t t':Bool} {bs:List (List ByteArray×Bool)} (h:Sb xs r bs ys t) (k:Sb xs' r bs ys' t'):t=t':=by
 cases r with
 | true=>rw [h.ne.2,k.ne.2]
 | false=>rw [h.plain,k.plain]
theorem Fil.caps {xs cs l:List ByteArray} {r:Bool} (h:Fil xs r cs l):cs.length=wildB stB xs r:=by
 have:=((fil_ok _ _ _ _).1 h).1
 unfold fillOk at this
 rw [Bool.and_eq_true,decide_eq_true_iff] at this
 exact this.1
theorem SFil.fn:∀ {bs:List (List ByteArray×Bool)} {cs ds es:List ByteArray},SFil bs cs ds→SFil bs cs es→ds=es
 | [],cs,ds,es,h,k=>by rw [h.2,k.2]
 | p::bs,cs,ds,es,h,k=>by
  obtain ⟨c1,c2,l,ds',rfl,h1,rfl,h2⟩:=h
  obtain ⟨d1,d2,m,es',e,k1,rfl,k2⟩:=k
  have hl:c1.length=d1.length:=by rw [h1.caps,k1.caps]
  obtain ⟨rfl,rfl⟩:=List.append_inj e hl
  rw [h1.fn k1,SFil.fn h2 k2]
theorem sb_rule {xs ys L R:List ByteArray} {r t l q:Bool} {bs bs':List (List ByteArray×Bool)} (hx:checkP L l=0) (hy:checkP R q=0) (h:Sb xs r bs L l) (k:Sb ys t bs' R q) (hc:cntB bs=cntB bs') (hq:l=q):ruleE L l R q=0 :=
 ruleE_zero.2 ⟨hx,hy,by rw [h.count,k.count,hc],hq⟩
theorem sub_check {xs:List ByteArray} {r:Bool} {bs:List (List ByteArray×Bool)} (h:subE xs r bs=0):checkP (subL xs r bs) (subR xs r bs)=0:=by
 have:=(sub_bind h).1
 unfold withinOk at this
 rw [Bool.and_eq_true,beq_iff_eq] at this
 exact this.1
theorem bnd_sb {xs zs:List ByteArray} {r u:Bool} (h:withinOk insB zs xs u r=true):Sb xs r (bndB xs r zs u) zs u:=by
 have hb:=bind_sub h
 have e:bndB xs r zs u=bindB xs zs r u:=by unfold bndB;rw [if_pos h]
 rw [e]
 have:=sub_sb hb.1
 rw [hb.2.1,hb.2.2] at this
 exact this
theorem car_zero {xs zs ys:List ByteArray} {r u t:Bool} (h:carE xs r zs u ys t=0):subE ys t (bndB xs r zs u)=0:=by
 unfold carE at h
 by_cases h1:subE ys t (bndB xs r zs u)=0
 ·exact h1
 ·rw [if_neg h1] at h;cases h
theorem car_sb {xs zs ys:List ByteArray} {r u t:Bool} (h:carE xs r zs u ys t=0):Sb ys t (bndB xs r zs u) (carL xs r zs u ys t) (carR xs r zs u ys t)∧checkP (carL xs r zs u ys t) (carR xs r zs u ys t)=0 :=
 ⟨sub_sb (car_zero h),sub_check (car_zero h)⟩
theorem nar_parts {xs ys zs:List ByteArray} {r t u:Bool}:narO xs r ys t zs u=true↔ruleE xs r ys t=0∧checkP zs u=0∧meetOk xs zs r u=true∧carE xs r (meetL xs zs) (r&&u) ys t=0:=by
 unfold narO
 rw [Bool.and_eq_true,Bool.and_eq_true,Bool.and_eq_true,beq_iff_eq,beq_iff_eq,beq_iff_eq]
theorem nar_rule {xs ys zs:List ByteArray} {r t u:Bool} (ho:narO xs r ys t zs u=true):ruleE (narL xs r ys t zs u) (narLr xs r ys t zs u) (narR xs r ys t zs u) (narRr xs r ys t zs u)=0:=by
 obtain ⟨h0,hz,hm,hc⟩:=nar_parts.1 ho
 have hw:=(meet_within hm).1
 have s1:=bnd_sb hw
 have s2:=car_sb hc
 have hr:=ruleE_zero.1 h0
 unfold narL narLr narR narRr
 rw [if_pos ho,if_pos ho,if_pos ho,if_pos ho]
 have hck:checkP (meetL xs zs) (r&&u)=0:=by
  unfold withinOk at hw
  rw [Bool.and_eq_true,beq_iff_eq] at hw
  exact hw.1
 have hrt:=hr.2.2.2
 subst hrt
 exact sb_rule hck s2.2 s1 s2.1 rfl (s1.rest s2.1)
theorem nar_means {xs ys zs:List ByteArray} {r t u:Bool} {s:ByteArray} (he:narE xs r ys t zs u=0) :
 (narO xs r ys t zs u=false→(fwdO xs r ys t s&&matchOk mpOk zs u s)=false) ∧
 (narO xs r ys t zs u=true→fwdO (narL xs r ys t zs u) (narLr xs r ys t zs u) (narR xs r ys t zs u) (narRr xs r ys t zs u) s=(fwdO xs r ys t s&&matchOk mpOk zs u s) ∧
  fwdT (narL xs r ys t zs u) (narLr xs r ys t zs u) (narR xs r ys t zs u) (narRr xs r ys t zs u) s=(if (fwdO xs r ys t s&&matchOk mpOk zs u s)=true then fwdT xs r ys t s else ⟨#[]⟩)):=by
 have h0:ruleE xs r ys t=0:=by
  unfold narE at he
  by_cases h:ruleE xs r ys t=0
  ·exact h
  ·rw [if_pos h] at he;exact absurd he h
 have hz:checkP zs u=0:=by
  unfold narE at he
  rw [if_neg (by simp [h0])] at he
  by_cases h:checkP zs u=0
  ·exact h
  ·rw [if_pos h] at he;exact absurd he h
 have mm:=meet_means xs zs r u s
 constructor
 ·intro ho
  have hm:meetOk xs zs r u=false:=by
   cases hm:meetOk xs zs r u with
   | false=>rfl
   | true =>
    unfold narE at he
    rw [if_neg (by simp [h0]),if_neg (by simp [hz]),if_neg (by simp [hm])] at he
    rw [nar_parts.2 ⟨h0,hz,hm,he⟩] at ho
    cases ho
  rw [fwd_match h0]
  exact mm.2 hm
 ·intro ho
  obtain ⟨_,_,hm,hc⟩:=nar_parts.1 ho
  have hru:=nar_rule ho
  have hw:=(meet_within hm).1
  have s1:=bnd_sb hw
  have s2:=car_sb hc
  have hr:=ruleE_zero.1 h0
  unfold narL narLr narR narRr at hru ⊢
  rw [if_pos ho,if_pos ho,if_pos ho,if_pos ho] at hru
  rw [if_pos ho,if_pos ho,if_pos ho,if_pos ho]
  have hO:fwdO (meetL xs zs) (r&&u) (carL xs r (meetL xs zs) (r&&u) ys t) (carR xs r (meetL xs zs) (r&&u) ys t) s=(fwdO xs r ys t s&&matchOk mpOk zs u s):=by
   rw [fwd_match hru,fwd_match h0]
   exact (mm.1 hm).2
  refine ⟨hO,?_⟩
  by_cases hi:(fwdO xs r ys t s&&matchOk mpOk zs u s)=true
  ·rw [if_pos hi]
   rw [hi] at hO
   obtain ⟨_,cs,l,m,h1,h2,h3,h4,h5⟩:=fwd_of hO
   rw [h5]
   obtain ⟨ds,h6,h7⟩:=(s1.fil (parts_all (check_zero hr.1).2.2) cs l).1 h1
   obtain ⟨ds',h8,h9⟩:=(s2.1.fil (parts_all (check_zero hr.2.1).2.2) cs m).1 h2
   rw [SFil.fn h8 h6] at h9
   rw [h3]
   exact (fwd_mk h0 h7 h9).2.symm
  ·have hi':(fwdO xs r ys t s&&matchOk mpOk zs u s)=false:=by simpa using hi
   rw [if_neg hi]
   rw [hi'] at hO
   exact fwd_no hO
theorem bnd_sz {m:Nat} {xs zs:List ByteArray} {r u:Bool} (hz:∀ y∈zs,y.size≤m):∀ b∈bndB xs r zs u,∀ x∈b.1,x.size≤m:=by
 have hg:∀ i,(zs.getD i eB).size≤m:=fun i=>by
  rw [List.getD]
  cases h:zs[i]? with
  | none=>exact Nat.zero_le _
  | some y=>exact hz y (mG h)
 unfold bndB
 split
 ·intro b hb x hx
  unfold bindB at hb
  rcases List.mem_append.1 hb with hb|hb
  ·unfold bindI at hb
   obtain ⟨i,_,rfl⟩:=List.mem_map.1 hb
   simp only [List.mem_singleton] at hx
   subst hx
   exact Nat.le_trans (tr_size' _ _) (hg i)
  ·split at hb
   ·obtain rfl:=List.mem_singleton.1 hb
    exact hz x (List.mem_of_mem_drop hx)
   ·cases hb
 ·intro b hb;cases hb
theorem flC_sz {m k:Nat}:∀ {xs cs:List ByteArray},(∀ x∈xs,x.size≤m)→(∀ x∈cs,x.size≤k)→∀ x∈flC stB tlB xs cs,x.size≤k+m
 | [],cs,_,_,x,hx=>by cases hx
 | y::xs,cs,h1,h2,x,hx=>by
  unfold flC at hx
  have hy:=h1 y (by simp)
  split at hx
  ·rcases List.mem_cons.1 hx with rfl|hx
   ·have hh:(cs.headD ⟨#[]⟩).size≤k:=by
     cases cs with
     | nil=>exact Nat.zero_le _
     | cons c cs=>exact h2 c (by simp)
    have:=tlB_size y
    rw [ByteArray.size_append]
    omega
   ·exact flC_sz (fun z hz=>h1 z (by simp [hz])) (fun z hz=>h2 z (List.mem_of_mem_tail hz)) x hx
  ·rcases List.mem_cons.1 hx with rfl|hx
   ·omega
   ·exact flC_sz (fun z hz=>h1 z (by simp [hz])) h2 x hx
theorem sub_sz {m k:Nat} {xs:List ByteArray} {r:Bool} {bs:List (List ByteArray×Bool)} (hx:∀ x∈xs,x.size≤m) (hb:∀ b∈bs,∀ x∈b.1,x.size≤k):∀ z∈subL xs r bs,z.size≤k+m:=by
 intro z hz
 unfold subL at hz
 split at hz
 ·rcases List.mem_append.1 hz with hz|hz
  ·refine flC_sz hx (fun y hy=>?_) z hz
   obtain ⟨p,hp,rfl⟩:=List.mem_map.1 hy
   unfold hdP
   cases he:p.1 with
   | nil=>exact Nat.zero_le _
   | cons a l=>exact hb p hp a (by rw [he];simp)
  ·split at hz
   ·unfold lastP at hz
    rw [List.getD] at hz
    cases h:bs[countB stB xs]? with
    | none=>rw [h] at hz;cases hz
    | some p =>
     rw [h] at hz
     have:=hb p (mG h) z hz
     omega
   ·cases hz
 ·cases hz
theorem meet_sz {m:Nat} {xs zs:List ByteArray} {r u:Bool} (h:meetOk xs zs r u=true) (hx:∀ x∈xs,x.size≤m) (hz:∀ z∈zs,z.size≤m):∀ y∈meetL xs zs,y.size≤m:=fun y hy=>(meetL_mem h hy).elim (hx y) (hz y)
theorem nar_sz {m:Nat} {xs ys zs:List ByteArray} {r t u:Bool} (hx:∀ x∈xs,x.size≤m) (hy:∀ x∈ys,x.size≤m) (hz:∀ z∈zs,z.size≤m):(∀ y∈narL xs r ys t zs u,y.size≤m)∧(∀ y∈narR xs r ys t zs u,y.size≤m+m):=by
 unfold narL narR
 by_cases ho:narO xs r ys t zs u=true
 ·rw [if_pos ho,if_pos ho]
  have hm:=(nar_parts.1 ho).2.2.1
  have h1:=meet_sz hm hx hz
  refine ⟨h1,fun y h=>?_⟩
  exact sub_sz hy (bnd_sz h1) y h
 ·rw [if_neg ho,if_neg ho]
  exact ⟨fun y h=>(by cases h),fun y h=>(by cases h)⟩
end Go.Proofs.YtelkmeiepliecaaGreatDoor
