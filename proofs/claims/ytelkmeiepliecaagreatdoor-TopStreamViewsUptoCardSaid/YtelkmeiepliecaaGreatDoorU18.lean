/-
  Part 18 of the proof.
-/
import Derived.Test.YtelkmeiepliecaaGreatDoorU17
import Derived.Test.YtelkmeiepliecaaGreatDoorU16
set_option linter.unusedSimpArgs false
set_option linter.unusedVariables false
set_option maxHeartbeats 16000000
namespace Go.Proofs.YtelkmeiepliecaaGreatDoor
open Go.RowKit
open Pm
theorem ch_rule {xs ys zs vs:List ByteArray} {r t u v:Bool} (ho:chO xs r ys t zs u vs v=true):ruleE (chL xs r ys t zs u vs v) (chLr xs r ys t zs u vs v) (chR xs r ys t zs u vs v) (chRr xs r ys t zs u vs v)=0:=by
 obtain ⟨hc,hm,h1,h2⟩:=ch_parts.1 ho
 obtain ⟨ha,hb⟩:=chk_zero.1 hc
 have ra:=ruleE_zero.1 ha
 have rb:=ruleE_zero.1 hb
 have hw:=meet_within hm
 have s1:=car_sb h1
 have s2:=car_sb h2
 have m1:=bnd_sb hw.1
 have m2:=bnd_sb hw.2
 unfold chL chLr chR chRr
 rw [if_pos ho,if_pos ho,if_pos ho,if_pos ho]
 have e1:=ra.2.2.2
 have e2:=rb.2.2.2
 subst e1 e2
 refine sb_rule s1.2 s2.2 s1.1 s2.1 ?_ ?_
 ·rw [←m1.count,← m2.count]
 ·rw [s1.1.rest m1,s2.1.rest m2]
theorem ch_means {xs ys zs vs:List ByteArray} {r t u v:Bool} {s:ByteArray} (he:chE xs r ys t zs u vs v=0) :
 (chO xs r ys t zs u vs v=false→(fwdO xs r ys t s&&fwdO zs u vs v (fwdT xs r ys t s))=false) ∧
 (chO xs r ys t zs u vs v=true→fwdO (chL xs r ys t zs u vs v) (chLr xs r ys t zs u vs v) (chR xs r ys t zs u vs v) (chRr xs r ys t zs u vs v) s=(fwdO xs r ys t s&&fwdO zs u vs v (fwdT xs r ys t s)) ∧
  fwdT (chL xs r ys t zs u vs v) (chLr xs r ys t zs u vs v) (chR xs r ys t zs u vs v) (chRr xs r ys t zs u vs v) s=(if (fwdO xs r ys t s&&fwdO zs u vs v (fwdT xs r ys t s))=true then fwdT zs u vs v (fwdT xs r ys t s) else ⟨#[]⟩)):=by
 have hc:chkE xs r ys t zs u vs v=0:=by
  unfold chE at he
  by_cases h:chkE xs r ys t zs u vs v=0
  ·exact h
  ·rw [if_pos h] at he;exact absurd he h
 obtain ⟨ha,hb⟩:=chk_zero.1 hc
 have ra:=ruleE_zero.1 ha
 have rb:=ruleE_zero.1 hb
 have two:(fwdO xs r ys t s&&fwdO zs u vs v (fwdT xs r ys t s))=true→∃ d1 d2 l k m,Fil xs r d1 l∧Fil ys t d1 k∧Fil zs u d2 k∧Fil vs v d2 m∧s=joinB l∧fwdT zs u vs v (fwdT xs r ys t s)=joinB m:=by
  intro h
  rw [Bool.and_eq_true] at h
  obtain ⟨_,d1,l,k,h1,h2,h3,_,h5⟩:=fwd_of h.1
  obtain ⟨_,d2,l2,m,k1,k2,k3,k4,k5⟩:=fwd_of h.2
  rw [h5] at k4
  have e:compsB (joinB k)=k:=(fil_fill ra.2.1 h2).2.2.2.2
  rw [e] at k4
  subst k4
  exact ⟨d1,d2,l,k,m,h1,h2,k1,k2,h3,k5⟩
 constructor
 ·intro ho
  have hm:meetOk ys zs t u=false:=by
   cases hm:meetOk ys zs t u with
   | false=>rfl
   | true =>
    unfold chE at he
    rw [if_neg (by simp [hc]),if_neg (by simp [hm])] at he
    by_cases h1:carE ys t (meetL ys zs) (t&&u) xs r=0
    ·rw [if_neg (by simp [h1])] at he
     rw [ch_parts.2 ⟨hc,hm,h1,he⟩] at ho
     cases ho
    ·rw [if_pos h1] at he;cases he
  cases hx:(fwdO xs r ys t s&&fwdO zs u vs v (fwdT xs r ys t s)) with
  | false=>rfl
  | true =>
   obtain ⟨d1,d2,l,k,m,h1,h2,h3,h4,h5,h6⟩:=two hx
   have:=(meet_means ys zs t u (joinB k)).2 hm
   rw [fil_match ra.2.1 h2,fil_match rb.1 h3] at this
   cases this
 ·intro ho
  obtain ⟨_,hm,h1,h2⟩:=ch_parts.1 ho
  have hru:=ch_rule ho
  have hw:=meet_within hm
  have s1:=(car_sb h1).1
  have s2:=(car_sb h2).1
  have m1:=bnd_sb hw.1
  have m2:=bnd_sb hw.2
  have mk:=(meet_means ys zs t u s).1 hm
  unfold chL chLr chR chRr at hru ⊢
  rw [if_pos ho,if_pos ho,if_pos ho,if_pos ho] at hru
  rw [if_pos ho,if_pos ho,if_pos ho,if_pos ho]
  have px:=parts_all (check_zero ra.1).2.2
  have py:=parts_all (check_zero ra.2.1).2.2
  have pz:=parts_all (check_zero rb.1).2.2
  have pv:=parts_all (check_zero rb.2.1).2.2
  by_cases hi:(fwdO xs r ys t s&&fwdO zs u vs v (fwdT xs r ys t s))=true
  ·rw [if_pos hi,hi]
   obtain ⟨d1,d2,l,k,m,k1,k2,k3,k4,k5,k6⟩:=two hi
   have hmk:=((meet_means ys zs t u (joinB k)).1 hm).2
   rw [fil_match ra.2.1 k2,fil_match rb.1 k3] at hmk
   obtain ⟨hn,f1,f2⟩:=match_fil hmk
   have e:compsB (joinB k)=k:=(fil_fill ra.2.1 k2).2.2.2.2
   rw [e] at f1
   obtain ⟨e1,g1,g2⟩:=(m1.fil py _ k).1 f1
   obtain ⟨e2,g3,g4⟩:=(m2.fil pz _ k).1 f1
   rw [g2.inj k2] at g1
   rw [g4.inj k3] at g3
   have fl:=(s1.fil px _ l).2 ⟨d1,g1,k1⟩
   have fr:=(s2.fil pv _ m).2 ⟨d2,g3,k4⟩
   have:=fwd_mk hru fl fr
   rw [k5,this.1,this.2,← k6,k5]
   exact ⟨rfl,rfl⟩
  ·have hi':(fwdO xs r ys t s&&fwdO zs u vs v (fwdT xs r ys t s))=false:=by simpa using hi
   rw [if_neg hi,hi']
   have hO:fwdO (carL ys t (meetL ys zs) (t&&u) xs r) (carR ys t (meetL ys zs) (t&&u) xs r) (carL zs u (meetL ys zs) (t&&u) vs v) (carR zs u (meetL ys zs) (t&&u) vs v) s=false:=by
    cases hx:fwdO (carL ys t (meetL ys zs) (t&&u) xs r) (carR ys t (meetL ys zs) (t&&u) xs r) (carL zs u (meetL ys zs) (t&&u) vs v) (carR zs u (meetL ys zs) (t&&u) vs v) s with
    | false=>rfl
    | true =>
     exfalso
     apply hi
     obtain ⟨_,cs,l,m,k1,k2,k3,k4,k5⟩:=fwd_of hx
     obtain ⟨d1,g1,g2⟩:=(s1.fil px cs l).1 k1
     obtain ⟨d2,g3,g4⟩:=(s2.fil pv cs m).1 k2
     have hkin:countB stB (carL ys t (meetL ys zs) (t&&u) xs r)=countB stB (meetL ys zs):=by rw [s1.count,m1.count]
     have hrest:carR ys t (meetL ys zs) (t&&u) xs r=(t&&u):=by
      have e1:=ra.2.2.2
      subst e1
      exact s1.rest m1
     obtain ⟨k,hk⟩:=k1.kinds hkin
     rw [hrest] at hk
     obtain ⟨e1,q1,q2⟩:=(m1.fil py cs k).1 hk
     obtain ⟨e2,q3,q4⟩:=(m2.fil pz cs k).1 hk
     rw [SFil.fn q1 g1] at q2
     rw [SFil.fn q3 g3] at q4
     have f1:=fwd_mk ha g2 q2
     have f2:=fwd_mk hb q4 g4
     rw [k3,Bool.and_eq_true,f1.1,f1.2,f2.1]
     exact ⟨rfl,rfl⟩
   exact ⟨hO,fwd_no hO⟩
theorem fil_some:∀ (xs:List ByteArray) (r:Bool),∃ cs l,Fil xs r cs l
 | [],false=>⟨[],[],rfl,rfl⟩
 | [],true=>⟨[⟨#[97]⟩],_,⟨#[97]⟩,rfl,rfl,by decide⟩
 | x::xs,r=>by
  obtain ⟨cs,l,h⟩:=fil_some xs r
  by_cases hs:stB x=true
  ·exact ⟨⟨#[97]⟩::cs,_,(Fil.star hs).2 ⟨⟨#[97]⟩,cs,l,rfl,by decide,rfl,h⟩⟩
  ·exact ⟨cs,_,(Fil.lit (by simpa using hs)).2 ⟨l,rfl,h⟩⟩
theorem same_within {xs ys:List ByteArray} {r t:Bool} (hx:checkP xs r=0) (hy:checkP ys t=0) (h:∀ s,matchOk mpOk xs r s=true→matchOk mpOk ys t s=true):withinOk insB xs ys r t=true :=
 (wit_within hx hy).2 fun n h1 h2=>h _ (wit_own hx (wit_in h1 h2))
theorem within_anti {xs ys:List ByteArray} {r t:Bool} (h:withinOk insB xs ys r t=true) (k:withinOk insB ys xs t r=true):xs=ys∧r=t:=by
 unfold withinOk insideOk at h k
 rw [Bool.and_eq_true,Bool.and_eq_true,Bool.and_eq_true,lensIn_iff,ok_iff] at h k
 obtain ⟨_,_,⟨h1,h2,h3⟩,h4⟩:=h
 obtain ⟨_,_,⟨k1,k2,k3⟩,k4⟩:=k
 have hl:xs.length=ys.length:=by omega
 refine ⟨List.ext_getElem? fun i=>?_,?_⟩
 ·rcases Nat.lt_or_ge i xs.length with hi|hi
  ·obtain ⟨x,hx⟩:∃ x,xs[i]? = some x:=⟨_,gE hi⟩
   obtain ⟨y,hy⟩:∃ y,ys[i]? = some y:=⟨_,gE (by omega)⟩
   rw [hx,hy,ins_anti (h4 i x y hx hy) (k4 i y x hy hx)]
  ·rw [List.getElem?_eq_none hi,List.getElem?_eq_none (by omega)]
 ·cases r with
  | true =>
   cases t with
   | true=>rfl
   | false=>exact (h2 rfl).1
  | false =>
   cases t with
   | true=>exact (k2 rfl).1.symm
   | false=>rfl
theorem same_pat {xs ys:List ByteArray} {r t:Bool} (hx:checkP xs r=0) (hy:checkP ys t=0) (h:∀ s,matchOk mpOk xs r s=matchOk mpOk ys t s):xs=ys∧r=t :=
 within_anti (same_within hx hy fun s hs=>by rw [←h];exact hs) (same_within hy hx fun s hs=>by rw [h];exact hs)
theorem fwd_right {xs ys:List ByteArray} {r t:Bool} {q:ByteArray} (h0:ruleE xs r ys t=0):matchOk mpOk ys t q=true↔∃ s,fwdO xs r ys t s=true∧fwdT xs r ys t s=q:=by
 have hr:=ruleE_zero.1 h0
 have hrt:=hr.2.2.2
 subst hrt
 constructor
 ·intro h
  obtain ⟨hn,f1,f2⟩:=match_fil h
  obtain ⟨l,hl⟩:=f1.kinds hr.2.2.1.symm
  have:=fwd_mk h0 hl f1
  exact ⟨_,this.1,by rw [this.2,f2]⟩
 ·rintro ⟨s,h1,h2⟩
  obtain ⟨_,cs,l,m,k1,k2,k3,k4,k5⟩:=fwd_of h1
  rw [←h2,k5]
  exact fil_match hr.2.1 k2
theorem same_rule {xs ys zs vs:List ByteArray} {r t u v:Bool} (h0:ruleE xs r ys t=0) (k0:ruleE zs u vs v=0) (h:∀ s,fwdO xs r ys t s=fwdO zs u vs v s∧fwdT xs r ys t s=fwdT zs u vs v s):(xs=zs∧r=u)∧(ys=vs∧t=v):=by
 have hr:=ruleE_zero.1 h0
 have kr:=ruleE_zero.1 k0
 refine ⟨same_pat hr.1 kr.1 fun s=>?_,same_pat hr.2.1 kr.2.1 fun q=>?_⟩
 ·rw [←fwd_match h0,← fwd_match k0]
  exact (h s).1
 ·rw [Bool.eq_iff_iff,fwd_right h0,fwd_right k0]
  constructor
  ·rintro ⟨s,h1,h2⟩
   exact ⟨s,by rw [←(h s).1];exact h1,by rw [←(h s).2];exact h2⟩
  ·rintro ⟨s,h1,h2⟩
   exact ⟨s,by rw [(h s).1];exact h1,by rw [(h s).2];exact h2⟩
open Go.RowKit
open Pm
theorem part_noslash {x:ByteArray} (h:partB x=true):(47:UInt8)∉x.data.toList:=by
 unfold partB at h
 rw [Bool.or_eq_true] at h
 rcases h with h|h
 ·unfold starOk stB at h
  rw [Bool.and_eq_true] at h
  obtain ⟨h2,h3⟩:=h
  generalize x.data.toList=l at *
  intro hm
  cases l with
  | nil=>cases hm
  | cons c r =>
   simp only [Lib.hasPrefix,List.isPrefixOf,Bool.and_true,beq_iff_eq] at h2
   subst h2
   rcases List.mem_cons.1 hm with e|hm
   ·revert e;decide
   ·rw [List.drop_succ_cons,List.drop_zero] at h3
    have:=List.all_eq_true.1 h3 47 hm
    revert this
    decide
 ·exact comp_no_slash h
theorem part_nodots {x:ByteArray} (h:partB x=true):x.data.toList≠dots:=by
 intro e
 unfold partB starOk stB at h
 rw [e] at h
 revert h
 decide
theorem textB_data (xs:List ByteArray) (r:Bool):(textB xs r).data.toList=47::47::(Lib.join (datj xs) [47]++(if r=true then [47,46,46,46] else [])):=by
 unfold textB
 cases r with
 | true =>
  simp only [if_true]
  rw [ByteArray.data_append,Array.toList_append,cat_eq]
  unfold joinB joinL
  rw [mkB_data]
  rfl
 | false =>
  simp only [Bool.false_eq_true,if_false,List.append_nil]
  rw [cat_eq]
  unfold joinB joinL
  rw [mkB_data]
theorem datj_back (xs:List ByteArray):(datj xs).map mkB=xs:=by
 unfold datj
 rw [List.map_map]
 conv=>rhs;rw [←List.map_id xs]
 exact List.map_congr_left fun x _=>mkB_back x
theorem sp_datj {xs:List ByteArray} (h0:0<xs.length) (h:∀ x∈xs,partB x=true):sp (Lib.join (datj xs) [47])=datj xs:=by
 refine sp_join _ ?_ ?_
 ·intro e
  have:(datj xs).length=xs.length:=List.length_map _
  rw [e] at this
  simp at this
  omega
 ·intro x hx
  unfold datj at hx
  obtain ⟨y,hy,rfl⟩:=List.mem_map.1 hx
  exact part_noslash (h y hy)
theorem parse_text {xs:List ByteArray} {r:Bool} (hc:checkP xs r=0):parseN (textB xs r)=0∧ppartsB (textB xs r)=xs∧prestB (textB xs r)=r:=by
 obtain ⟨h0,_,hp⟩:=check_zero hc
 have hall:=parts_all hp
 have hsp:=sp_datj h0 hall
 have hd:=textB_data xs r
 have hb:bodyL (textB xs r)=Lib.join (datj xs) [47]++(if r=true then [47,46,46,46] else []):=by
  unfold bodyL
  rw [hd]
  rfl
 have hpre:Lib.hasPrefix (textB xs r).data.toList [47,47]=true:=by
  rw [hd]
  simp [Lib.hasPrefix,List.isPrefixOf]
 have key:ppartsB (textB xs r)=xs∧prestB (textB xs r)=r:=by
  unfold ppartsB prestB
  rw [hb]
  cases r with
  | true =>
   have:=@suffix_of (Lib.join (datj xs) [47])
   simp only [if_true]
   rw [show ([47,46,46,46]:List UInt8)=47::dots from rfl] at *
   rw [this.1,this.2]
   refine ⟨?_,rfl⟩
   unfold spB
   rw [hsp,datj_back]
  | false =>
   simp only [Bool.false_eq_true,if_false,List.append_nil]
   have hs:Lib.hasSuffix (Lib.join (datj xs) [47]) [47,46,46,46]=false:=by
    rcases sp_split_last (Lib.join (datj xs) [47]) with ⟨b,hb,hl,_⟩|⟨a,b,hb,hl,h3⟩
    ·rw [hl];exact suffix_none hb
    ·refine suffix_not hl hb fun e=>?_
     have hm:b∈datj xs:=by rw [←hsp,h3];simp
     unfold datj at hm
     obtain ⟨y,hy,rfl⟩:=List.mem_map.1 hm
     exact part_nodots (hall y hy) e
   refine ⟨?_,hs⟩
   unfold Lib.trimSuffix
   rw [hs]
   simp only [Bool.false_eq_true,if_false]
   unfold spB
   rw [hsp,datj_back]
 refine ⟨?_,key⟩
 unfold parseN
 rw [if_pos hpre,key.1,key.2]
 exact hc
open Pm
abbrev Pn:=List ByteArray×Bool
def mt (p:Pn) (s:ByteArray):Bool:=matchOk mpOk p.1 p.2 s
def okPn (p:Pn):Prop:=checkP p.1 p.2=0
def metO (p q:Pn):Bool:=meetOk p.1 q.1 p.2 q.2
def met (p q:Pn):Pn:=(meetL p.1 q.1,p.2&&q.2)
def insP (p q:Pn):Bool:=insideOk insB p.1 q.1 p.2 q.2
def txt (p:Pn):ByteArray:=textB p.1 p.2
theorem txt_inj {p q:Pn} (hp:okPn p) (hq:okPn q) (h:txt p=txt q):p=q:=by
 obtain ⟨_,a,b⟩:=parse_text hp
 obtain ⟨_,c,d⟩:=parse_text hq
 have h':textB p.1 p.2=textB q.1 q.2:=h
 rw [h',c] at a
 rw [h',d] at b
 exact Prod.ext a.symm b.symm
theorem met_ok {p q:Pn} (h:metO p q=true):okPn (met p q):=((meet_means p.1 q.1 p.2 q.2 ⟨#[]⟩).1 h).1
theorem met_mt {p q:Pn} (h:metO p q=true) (s:ByteArray):mt (met p q) s=(mt p s&&mt q s):=((meet_means p.1 q.1 p.2 q.2 s).1 h).2
theorem met_no {p q:Pn} (h:metO p q=false) (s:ByteArray):(mt p s&&mt q s)=false:=(meet_means p.1 q.1 p.2 q.2 s).2 h
theorem insP_iff {p q:Pn} (hp:okPn p) (hq:okPn q):insP p q=true↔∀ s,mt p s=true→mt q s=true:=by
 have e:withinOk insB p.1 q.1 p.2 q.2=insP p q:=by
  unfold withinOk insP
  rw [show checkP p.1 p.2=0 from hp,show checkP q.1 q.2=0 from hq]
  simp
 constructor
 ·intro h s hs
  exact within_means (e.trans h) hs
 ·intro h
  rw [←e]
  exact same_within hp hq h
theorem insP_self {p:Pn} (hp:okPn p):insP p p=true:=(insP_iff hp hp).2 fun _ h=>h
theorem insP_trans {p q o:Pn} (hp:okPn p) (hq:okPn q) (ho:okPn o) (h:insP p q=true) (k:insP q o=true):insP p o=true :=
 (insP_iff hp ho).2 fun s hs=>(insP_iff hq ho).1 k s ((insP_iff hp hq).1 h s hs)
theorem insP_anti {p q:Pn} (hp:okPn p) (hq:okPn q) (h:insP p q=true) (k:insP q p=true):p=q:=by
 obtain ⟨a,b⟩:=same_pat hp hq (fun s=>by
  rw [Bool.eq_iff_iff]
  exact ⟨(insP_iff hp hq).1 h s,(insP_iff hq hp).1 k s⟩)
 exact Prod.ext a b
def redM (b:Pn) (ps:List Pn):List Pn:=(ps.filter (metO b)).map (met b)
theorem redM_ok {b:Pn} {ps:List Pn}:∀ h∈redM b ps,okPn h:=fun h hh=>by
 obtain ⟨p,hp,rfl⟩:=List.mem_map.1 hh
 exact met_ok (List.mem_filter.1 hp).2
theorem redM_mt {b:Pn} {ps:List Pn} {s:ByteArray} (hb:mt b s=true):(redM b ps).any (mt · s)=ps.any (mt · s):=by
 rw [Bool.eq_iff_iff,List.any_eq_true,List.any_eq_true]
 constructor
 ·rintro ⟨h,hh,hs⟩
  obtain ⟨p,hp,rfl⟩:=List.mem_map.1 hh
  obtain ⟨hp,hm⟩:=List.mem_filter.1 hp
  rw [met_mt hm,Bool.and_eq_true] at hs
  exact ⟨p,hp,hs.2⟩
 ·rintro ⟨p,hp,hs⟩
  cases hm:metO b p with
  | true=>exact ⟨met b p,List.mem_map.2 ⟨p,List.mem_filter.2 ⟨hp,hm⟩,rfl⟩,by rw [met_mt hm,hb,hs];rfl⟩
  | false =>
   have:=met_no hm s
   rw [hb,hs] at this
   cases this
def topH (hs:List Pn):List Pn:=hs.filter fun h=>!hs.any fun o=>decide (txt o≠txt h)&&insP h o
theorem topH_mt {hs:List Pn} (hok:∀ h∈hs,okPn h) (s:ByteArray):(topH hs).any (mt · s)=hs.any (mt · s):=by
 rw [Bool.eq_iff_iff,List.any_eq_true,List.any_eq_true]
 constructor
 ·rintro ⟨h,hh,hm⟩
  exact ⟨h,(List.mem_filter.1 hh).1,hm⟩
 ·rintro ⟨h,hh,hm⟩
  have climb:∀ (n:Nat) (h:Pn),h∈hs→mt h s=true→(hs.filter fun o=>!insP o h).length≤n→∃ t∈topH hs,mt t s=true:=by
   intro n
   induction n with
   | zero =>
    intro h hh hm hn
    refine ⟨h,List.mem_filter.2 ⟨hh,?_⟩,hm⟩
    rw [Bool.not_eq_true',List.any_eq_false]
    rintro o ho hc
    rw [Bool.and_eq_true,decide_eq_true_eq] at hc
    have hnil:hs.filter (fun o=>!insP o h)=[]:=List.eq_nil_of_length_eq_zero (by omega)
    have hoh:insP o h=true:=by
     cases hq:insP o h with
     | true=>rfl
     | false =>
      have:o∈hs.filter (fun o=>!insP o h):=List.mem_filter.2 ⟨ho,by simp [hq]⟩
      rw [hnil] at this
      cases this
    exact hc.1 (by rw [insP_anti (hok o ho) (hok h hh) hoh hc.2])
   | succ n ih =>
    intro h hh hm hn
    by_cases hc:hs.any (fun o=>decide (txt o≠txt h)&&insP h o)=true
    ·obtain ⟨o,ho,hc⟩:=List.any_eq_true.1 hc
     rw [Bool.and_eq_true,decide_eq_true_eq] at hc
     refine ih o ho ((insP_iff (hok h hh) (hok o ho)).1 hc.2 s hm) ?_
     have hlt:(hs.filter fun x=>!insP x o).length<(hs.filter fun x=>!insP x h).length:=by
      have hsub:(hs.filter fun x=>!insP x o)=(hs.filter fun x=>!insP x h).filter fun x=>!insP x o:=by
       rw [List.filter_filter]
       refine List.filter_congr fun x hx=>?_
       cases hq:insP x o with
       | true=>rfl
       | false =>
        cases hr:insP x h with
        | true=>rw [insP_trans (hok x hx) (hok h hh) (hok o ho) hr hc.2] at hq;cases hq
        | false=>rfl
      rw [hsub]
      have hmo:o∈hs.filter fun x=>!insP x h:=List.mem_filter.2 ⟨ho,by
       cases hq:insP o h with
       | true=>exact absurd (by rw [insP_anti (hok o ho) (hok h hh) hq hc.2]) hc.1
       | false=>rfl⟩
      generalize hs.filter (fun x=>!insP x h)=L at hmo
      clear hsub hn ih
      induction L with
      | nil=>cases hmo
      | cons a L ih2 =>
       rw [List.filter_cons]
       rcases List.mem_cons.1 hmo with rfl|hmo
       ·rw [if_neg (by rw [insP_self (hok o ho)];decide)]
        exact Nat.lt_succ_of_le (List.length_filter_le _ _)
       ·have:=ih2 hmo
        split
        ·simp only [List.length_cons];omega
        ·simp only [List.length_cons];omega
     omega
    ·refine ⟨h,List.mem_filter.2 ⟨hh,?_⟩,hm⟩
     simp only [Bool.not_eq_true] at hc
     rw [hc]
     rfl
  exact climb _ h hh hm (Nat.le_refl _)
def reachB (p:Pn) (n:Nat):Bool:=(decide (n=p.1.length)&&!p.2) || (decide (p.1.length<n)&&p.2)
def partA (p:Pn) (i:Nat):ByteArray:=p.1[i]?.getD starT
def covB (h b:Pn) (fr n:Nat):Bool:=(List.range n).all fun i=>decide (i<fr) || decide (h.1.length≤i) || insB (partA b i) (h.1[i]?.getD starT)
def takenB (b:Pn) (hs:List Pn) (n:Nat):Bool:=hs.any fun h=>reachB h n&&covB h b 0 n
def lastN (b:Pn) (hs:List Pn):Nat:=if b.2=true then hs.foldl (fun m h=>max m (h.1.length+1)) (b.1.length+1) else b.1.length
def firstN (b:Pn):Nat:=if b.2=true then b.1.length+1 else b.1.length
def voidB (b:Pn) (hs:List Pn):Bool:=(List.range (lastN b hs+1)).all fun n=>decide (n<firstN b) || takenB b hs n
theorem fold_max (hs:List Pn):∀ m:Nat,m≤hs.foldl (fun m h=>max m (h.1.length+1)) m∧∀ h∈hs,h.1.length+1≤hs.foldl (fun m h=>max m (h.1.length+1)) m:=by
 induction hs with
 | nil=>exact fun m=>⟨Nat.le_refl _,fun h hh=>by cases hh⟩
 | cons a hs ih =>
  intro m
  obtain ⟨i1,i2⟩:=ih (max m (a.1.length+1))
  refine ⟨Nat.le_trans (Nat.le_max_left _ _) i1,fun h hh=>?_⟩
  rcases List.mem_cons.1 hh with rfl|hh
  ·exact Nat.le_trans (Nat.le_max_right _ _) i1
  ·exact i2 h hh
theorem mt_iff {p:Pn} {s:ByteArray}:mt p s=true↔pathOk s.data.toList=true∧okPn p∧(p.1.length≤(compsB s).length∧(p.2=true→p.1.length<(compsB s).length)∧(p.2=false→p.1.length=(compsB s).length))∧∀ (k:Nat) (x y:ByteArray),p.1[k]? = some x→(compsB s)[k]? = some y→mpOk x y=true:=by
 unfold mt matchOk okPn
 rw [Bool.and_eq_true,Bool.and_eq_true,Bool.and_eq_true,beq_iff_eq,lens_iff,ok_iff]
 constructor
 ·rintro ⟨⟨⟨a,b⟩,c⟩,d⟩;exact ⟨a,b,c,d⟩
 ·rintro ⟨a,b,c,d⟩;exact ⟨⟨⟨a,b⟩,c⟩,d⟩
theorem star_any {y:ByteArray} (h:comp y.data.toList=true):mpOk starT y=true:=by
 rw [mp_star starT_st]
 refine ⟨y.data.toList,?_,?_⟩
 ·intro e
  rw [e] at h
  simp [comp] at h
 ·rw [starT_tl];simp
theorem void_sound {b:Pn} {hs:List Pn} (hok:∀ h∈hs,okPn h) (hv:voidB b hs=true) {s:ByteArray} (hs1:mt b s=true):hs.any (mt · s)=true:=by
 obtain ⟨p1,p2,⟨p3,p4,p5⟩,p6⟩:=mt_iff.1 hs1
 have hcomp:∀ y∈compsB s,comp y.data.toList=true:=by
  have h1:=((pathOk_iff s).1 p1).1
  unfold dirOk at h1
  rw [Bool.and_eq_true,comps_all,List.all_eq_true] at h1
  exact h1.2
 have hbm:∀ (i:Nat) (y:ByteArray),(compsB s)[i]? = some y→mpOk (partA b i) y=true:=fun i y hy=>by
  unfold partA
  cases hx:b.1[i]? with
  | some x=>exact p6 i x y hx hy
  | none=>exact star_any (hcomp y (mG hy))
 generalize hm:(compsB s).length=m at p3 p4 p5
 have hlast:b.2=true→∀ h∈hs,h.1.length+1≤lastN b hs:=fun hb h hh=>by
  unfold lastN
  rw [if_pos hb]
  exact (fold_max hs _).2 h hh
 have hfl:firstN b≤lastN b hs:=by
  unfold firstN lastN
  split
  ·exact (fold_max hs _).1
  ·exact Nat.le_refl _
 have hfm:firstN b≤m:=by
  unfold firstN
  split
  ·rename_i hb;exact p4 hb
  ·exact p3
 have hn:=List.all_eq_true.1 hv (min m (lastN b hs)) (List.mem_range.2 (by omega))
 rw [Bool.or_eq_true,decide_eq_true_eq] at hn
 rcases hn with hn|hn
 ·omega
 ·obtain ⟨h,hh,hc⟩:=List.any_eq_true.1 hn
  rw [Bool.and_eq_true] at hc
  obtain ⟨hr,hcv⟩:=hc
  refine List.any_eq_true.2 ⟨h,hh,mt_iff.2 ⟨p1,hok h hh,?_,fun k x y hx hy=>?_⟩⟩
  ·unfold reachB at hr
   simp only [Bool.or_eq_true,Bool.and_eq_true,decide_eq_true_eq,Bool.not_eq_true'] at hr
   rw [hm]
   by_cases hb:b.2=true
   ·have hl:=hlast hb h hh
    rcases hr with ⟨r1,r2⟩|⟨r1,r2⟩
    ·refine ⟨by omega,(fun e=>by rw [r2] at e;cases e),fun _=>by omega⟩
    ·exact ⟨by omega,(fun _=>by omega),fun e=>by rw [r2] at e;cases e⟩
   ·have hb':b.2=false:=by simpa using hb
    have hml:=p5 hb'
    have hln:lastN b hs=b.1.length:=by unfold lastN;rw [if_neg hb]
    rw [hln,← hml,Nat.min_self] at hr
    rcases hr with ⟨r1,r2⟩|⟨r1,r2⟩
    ·refine ⟨by omega,(fun e=>by rw [r2] at e;cases e),fun _=>by omega⟩
    ·exact ⟨by omega,(fun _=>by omega),fun e=>by rw [r2] at e;cases e⟩
  ·have hk:k<h.1.length:=(sI.1 hx).1
   have hkm:k<m:=by rw [←hm];exact (sI.1 hy).1
   have hkn:k<min m (lastN b hs):=by
    unfold reachB at hr
    simp only [Bool.or_eq_true,Bool.and_eq_true,decide_eq_true_eq,Bool.not_eq_true'] at hr
    rcases hr with ⟨r1,_⟩|⟨r1,_⟩<;>omega
   have:=List.all_eq_true.1 hcv k (List.mem_range.2 hkn)
   simp only [Bool.or_eq_true,decide_eq_true_eq] at this
   rcases this with (h0|h0)|h0
   ·omega
   ·omega
   ·rw [hx] at h0
    exact ins_mp h0 (hbm k y hy)
end Go.Proofs.YtelkmeiepliecaaGreatDoor
