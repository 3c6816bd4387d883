/-
  Part 49 of the proof.
-/
import Derived.Test.YtelkmeiepliecaaGreatDoorV48
import Derived.Test.YtelkmeiepliecaaGreatDoorV47
set_option linter.unusedSimpArgs false
set_option linter.unusedVariables false
set_option maxHeartbeats 16000000
namespace Go.Proofs.YtelkmeiepliecaaGreatDoor
open Pm
def locP (l:List St) (i:Nat) (c:ByteArray):Int×ByteArray:=if belowV c=true then seeF l c l.length i else (0,⟨#[]⟩)
theorem see_fuel {l:List St} {c:ByteArray}:∀ {n i:Nat},okF l n i→seeF l c (n+1) i=seeF l c n i
 | 0,i,h=>h.elim
 | n+1,i,h=>by
  have e1:seeF l c (n+1+1) i=match l[i]? with
   | none=>(0,⟨#[]⟩)
   | some s=>seeL s.1 c (match parS l i with|some p=>seeF l c (n+1) p|none=>(1,⟨#[]⟩)) (decS s.2.2 c):=rfl
  have e2:seeF l c (n+1) i=match l[i]? with
   | none=>(0,⟨#[]⟩)
   | some s=>seeL s.1 c (match parS l i with|some p=>seeF l c n p|none=>(1,⟨#[]⟩)) (decS s.2.2 c):=rfl
  rw [e1,e2]
  unfold okF at h
  cases hp:parS l i with
  | none=>rfl
  | some p =>
   rw [hp] at h
   dsimp only
   rw [see_fuel h]
theorem abv_fuel {l:List St}:∀ {n i:Nat},okF l n i→abvF l (n+1) i=abvF l n i
 | 0,i,h=>h.elim
 | n+1,i,h=>by
  have e1:abvF l (n+1+1) i=match parS l i with
   | some p=>p::abvF l (n+1) p
   | none=>[]:=rfl
  have e2:abvF l (n+1) i=match parS l i with
   | some p=>p::abvF l n p
   | none=>[]:=rfl
  rw [e1,e2]
  unfold okF at h
  cases hp:parS l i with
  | none=>rfl
  | some p =>
   rw [hp] at h
   dsimp only
   rw [abv_fuel h]
theorem dec_mt {ps:List Ln} {c:ByteArray} {q:Ln} (h:decS ps c=some q):q∈ps∧mt q.2.1 c=true:=by
 unfold decS at h
 have h1:=List.mem_of_find?_eq_some h
 have h2:=List.find?_some h
 exact ⟨List.mem_reverse.1 h1,h2⟩
theorem see_cases {l:List St} (hg:GoodS l) {n i:Nat} {s:St} (hs:l[i]? = some s) (c:ByteArray) :
 (seeF l c (n+1) i).1=0∨∃ q,q∈s.2.2∧mt q.2.1 c=true∧∃ ab,ab=(match parS l i with|some p=>seeF l c n p|none=>((1:Int),(⟨#[]⟩:ByteArray)))∧ab.1≠0 ∧
  ((ab.1=3∧seeF l c (n+1) i=(3,ab.2))∨(ab.1≠3∧q.1=3∧seeF l c (n+1) i=(3,fT q.2.1 q.2.2 c))∨(ab.1≠3∧q.1≠3∧∃ k:Int,(k=1∨k=2)∧seeF l c (n+1) i=(k,stoB s.1 c))):=by
 have e2:seeF l c (n+1) i=seeL s.1 c (match parS l i with|some p=>seeF l c n p|none=>(1,⟨#[]⟩)) (decS s.2.2 c):=by
  show (match l[i]? with|none=>_|some s=>_)=_
  rw [hs]
  rfl
 rw [e2]
 generalize hab:(match parS l i with|some p=>seeF l c n p|none=>((1:Int),(⟨#[]⟩:ByteArray)))=ab
 cases hd:decS s.2.2 c with
 | none=>exact .inl rfl
 | some q =>
  obtain ⟨m1,m2⟩:=dec_mt hd
  have e3:seeL s.1 c ab (some q)=if ab.1=0∨q.1=4 then (0,⟨#[]⟩) else if ab.1=3 then (3,ab.2) else if q.1=3 then (3,fT q.2.1 q.2.2 c) else (ownK q.1 ab.1,stoB s.1 c):=rfl
  rw [e3]
  by_cases h1:ab.1=0∨q.1=4
  ·rw [if_pos h1];exact .inl rfl
  ·refine .inr ⟨q,m1,m2,ab,rfl,fun e=>h1 (.inl e),?_⟩
   rw [if_neg h1]
   by_cases h3:ab.1=3
   ·rw [if_pos h3];exact .inl ⟨h3,rfl⟩
   ·rw [if_neg h3]
    by_cases h4:q.1=3
    ·rw [if_pos h4];exact .inr (.inl ⟨h3,h4,rfl⟩)
    ·rw [if_neg h4];exact .inr (.inr ⟨h3,h4,_,ownK_kd _ _,rfl⟩)
theorem see_below {l:List St} (hg:GoodS l) {n i:Nat} {c:ByteArray} (h:(seeF l c n i).1≠0):belowV c=true:=by
 cases n with
 | zero=>exact absurd rfl h
 | succ n =>
  cases hs:l[i]? with
  | none =>
   exfalso
   apply h
   have e2:seeF l c (n+1) i=(0,⟨#[]⟩):=by
    show (match l[i]? with|none=>_|some s=>_)=_
    rw [hs]
   rw [e2]
  | some s =>
   rcases see_cases hg (n:=n) hs c with h0|⟨q,hq,hm,_⟩
   ·exact absurd h0 h
   ·have hv:=(lineOk.parts ((hg.ln i s hs).2 q hq)).2.1
    obtain ⟨t,y,u,_,h2,_,h4,_⟩:=first_view hv hm
    have hr:compsB rootV=[viewN]:=by decide +kernel
    unfold belowV underB
    rw [h4,hr,h2]
    simp
theorem badL_no {l:List St} {i:Nat}:∀ {ps:List Ln} {os:List Pn},badL l i os ps=false→∀ q∈ps,q.1=3→ownT l i q.2.2=false
 | [],os,h,q,hq,_=>by cases hq
 | p::ps,os,h,q,hq,h3=>by
  unfold badL at h
  by_cases hp:p.1≠3
  ·rw [if_pos hp] at h
   rcases List.mem_cons.1 hq with rfl|hq
   ·exact absurd h3 hp
   ·exact badL_no h q hq h3
  ·rw [if_neg hp] at h
   rw [Bool.or_eq_false_iff,Bool.or_eq_false_iff] at h
   rcases List.mem_cons.1 hq with rfl|hq
   ·exact h.1.1
   ·exact badL_no h.2 q hq h3
theorem join_inj {x y x' y':ByteArray} {u u':List ByteArray} (h:joinB (x::y::u)=joinB (x'::y'::u')) (h1:∀ z∈x::y::u,comp z.data.toList=true) (h2:∀ z∈x'::y'::u',comp z.data.toList=true):x::y::u=x'::y'::u':=by
 rw [←joinB_comps (by simp) h1,← joinB_comps (by simp) h2,h]
theorem both_iff {l:List St} (hg:GoodS l) {i p:Nat} (hp:parS l i=some p) (hi:i<l.length) (c:ByteArray) :
 (∃ t,((seeF l c l.length i).1≠0∧(seeF l c l.length i).2=t)∧((seeF l c l.length p).1≠0∧(seeF l c l.length p).2=t))↔((locP l i c).1=3∧(locP l p c).1=3∧(locP l i c).2=(locP l p c).2):=by
 obtain ⟨n,hn⟩:∃ n,l.length=n+1:=⟨l.length-1,by omega⟩
 have hok:=hg.okF hi
 have hpl:=parS_lt hp
 obtain ⟨s,hs⟩:∃ s,l[i]? = some s:=⟨_,gE hi⟩
 obtain ⟨sp,hsp⟩:∃ s,l[p]? = some s:=⟨_,gE hpl⟩
 have hokp:okF l n p:=by
  rw [hn] at hok
  unfold okF at hok
  rw [hp] at hok
  exact hok
 have hfu:=see_fuel (c:=c) hokp
 have hab:(match parS l i with|some p=>seeF l c n p|none=>((1:Int),(⟨#[]⟩:ByteArray)))=seeF l c l.length p:=by rw [hp,hn];exact hfu.symm
 have loc_of:∀ j,(seeF l c l.length j).1≠0→locP l j c=seeF l c l.length j:=fun j h=>by unfold locP;rw [if_pos (see_below hg h)]
 have of_loc:∀ j,(locP l j c).1=3→locP l j c=seeF l c l.length j:=fun j h=>by
  unfold locP at h ⊢
  by_cases hb:belowV c=true
  ·rw [if_pos hb]
  ·rw [if_neg hb] at h;cases h
 constructor
 ·rintro ⟨t,⟨h1,h2⟩,h3,h4⟩
  rw [loc_of i h1,loc_of p h3]
  refine ⟨?_,?_,h2.trans h4.symm⟩
  all_goals (
   have hci:=see_cases hg (n:=n) hs c
   have hcp:=see_cases hg (n:=n) hsp c
   rw [hab,← hn] at hci
   rw [←hn] at hcp
   rcases hci with e|⟨q,hq,hm,ab,rfl,hne,hcs⟩
   ·exact absurd e h1
   rcases hcs with ⟨a3,e⟩|⟨a3,hq3,e⟩|⟨a3,hq3,k,hk,e⟩
   ·first
    | exact a3
    | (rw [e])
   all_goals exfalso
   all_goals (
    have hsto:(seeF l c l.length p).2=stoB sp.1 c:=by
     rcases hcp with e'|⟨q',hq',hm',ab',_,hne',hcs'⟩
     ·exact absurd e' h3
     ·rcases hcs' with ⟨_,e'⟩|⟨_,_,e'⟩|⟨_,_,k',_,e'⟩
      ·rw [e'] at a3;exact absurd rfl a3
      ·rw [e'] at a3;exact absurd rfl a3
      ·rw [e']
    rw [hsto] at h4
    rw [e] at h2
    have hv:=(lineOk.parts ((hg.ln i s hs).2 q hq))
    obtain ⟨t0,y,u,_,c2,c3,_,c5⟩:=first_view hv.2.1 hm
    have hcn:∀ {j:Nat} {s:St},l[j]? = some s→comp s.1.data.toList=true:=fun h=>by
     have:=(hg.nm _ _ h).1
     unfold nameOk at this
     simp only [Bool.and_eq_true] at this
     exact this.1.1
    have hyu:∀ z∈y::u,comp z.data.toList=true:=fun z hz=>c5 z (by rw [c2];exact List.mem_cons_of_mem _ hz)
    have hall:∀ {x:ByteArray},comp x.data.toList=true→∀ z∈x::y::u,comp z.data.toList=true:=fun hx z hz=>by
     rcases List.mem_cons.1 hz with rfl|hz
     ·exact hx
     ·exact hyu z hz
    have esp:stoB sp.1 c=joinB (sp.1::y::u):=by rw [←c3,c2];exact stoB_join _ _ _
    first
    | (
     obtain ⟨hrl,_⟩:=hv.2.2.2 hq3
     have hfo:fO q.2.1 q.2.2 c=true:=by rw [fO_mt hrl];exact hm
     obtain ⟨_,cs,x,m,g1,g2,_,_,g5⟩:=fwd_of (show fwdO q.2.1.1 q.2.1.2 q.2.2.1 q.2.2.2 c=true from hfo)
     have hokr:=hrl.okr
     cases hfr:q.2.2.1 with
     | nil=>have:=(okPn_len hokr).1;rw [hfr] at this;cases this
     | cons z zs =>
      have hpt:=(check_zero hokr).2.2
      have hmc:=g2.comps (parts_all hpt)
      have hm2:=fil_two hokr g2
      rw [hfr] at hpt g2
      unfold partsOk at hpt
      rw [Bool.and_eq_true] at hpt
      obtain ⟨m',rfl,_⟩:=(Fil.lit (comp_42 hpt.1)).1 g2
      cases m' with
      | nil=>simp at hm2
      | cons y' u' =>
       have e5:joinB (z::y'::u')=joinB (sp.1::y::u):=by rw [←esp,h4,← h2];exact g5.symm
       have e6:=join_inj e5 hmc (hall (hcn hsp))
       have e7:z=sp.1:=(List.cons.inj e6).1
       have hbad:=badL_no (hg.bad i s hs) q hq hq3
       unfold ownT at hbad
       rw [hfr] at hbad
       simp only [List.getD_cons_zero] at hbad
       rw [e7,(hg.nm p sp hsp).2] at hbad
       simp only at hbad
       have htop:topS l p=topS l i:=by
        unfold topS abvS
        rw [hn]
        have e8:abvF l (n+1) i=p::abvF l n p:=by
         show (match parS l i with|some p=>p::abvF l n p|none=>[])=_
         rw [hp]
        rw [e8,abv_fuel hokp,List.getLastD_cons]
       rw [htop] at hbad
       simp at hbad)
    | (
     have e5:joinB (s.1::y::u)=joinB (sp.1::y::u):=by
      rw [←esp,h4,← h2]
      show _=stoB s.1 c
      rw [←c3,c2]
      exact (stoB_join _ _ _).symm
     have e6:=join_inj e5 (hall (hcn hs)) (hall (hcn hsp))
     have e7:s.1=sp.1:=(List.cons.inj e6).1
     have e8:=(hg.nm i s hs).2
     rw [e7,(hg.nm p sp hsp).2] at e8
     have e9:p=i:=Option.some.inj e8
     refine hg.cyc i hi ?_
     unfold abvS
     rw [hn]
     show i∈(match parS l i with|some p=>p::abvF l n p|none=>[])
     rw [hp]
     show i∈p::abvF l n p
     rw [e9]
     exact List.mem_cons_self)))
 ·rintro ⟨h1,h2,h3⟩
  have e1:=of_loc i h1
  have e2:=of_loc p h2
  rw [e1] at h1 h3
  rw [e2] at h2 h3
  exact ⟨_,⟨by rw [h1];decide,rfl⟩,by rw [h2];decide,h3.symm⟩
open Pm
end Go.Proofs.YtelkmeiepliecaaGreatDoor
namespace Go.Proofs.YtelkmeiepliecaaGreatDoor
open Pm
theorem view_len {l:List St} {n i:Nat} {ps:List Pc} (h:vwF l n i=some ps):pcsF l n i=some ps:=(vw_parts h).1
theorem inv_view {l:List St} (hg:GoodS l) (hz:Sz40 l) {n i:Nat} {ps:List Pc} (h:vwF l n i=some ps) (hl:ps.length≤32) (hi:invE (ps.map entF)=0) (c s:ByteArray):relE (invC (ps.map entF)).1 c s↔((seeF l c n i).1≠0∧(seeF l c n i).2=s):=by
 rw [inv_rel (okM_view (pcs_e hg hz (view_len h)) hl) hi]
 exact vw_rel hg h s c
theorem agrees_law {l:List St} (hg:GoodS l) (hz:Sz40 l) {i p:Nat} (hp:parS l i=some p) (hi:i<l.length) {ps qs:List Pc} (h1:vwF l l.length i=some ps) (h2:vwF l l.length p=some qs) (l1:ps.length≤32) (l2:qs.length≤32) (i1:invE (ps.map entF)=0) (i2:invE (qs.map entF)=0)
 {a b:List En} (ea:(invC (ps.map entF)).1=a) (eb:(invC (qs.map entF)).1=b) (hA:agrE a b=0) (c:ByteArray) (hr:∀ g∈(agrL a b).1,rstE g a=0∧chkM (rstC g a).1=0) :
 ((agrL a b).1.filter fun g=>(forM (rstC g a).1 c).2).length≤1∧(((agrL a b).1.filter fun g=>(forM (rstC g a).1 c).2).length=1↔((locP l i c).1=3∧(locP l p c).1=3∧(locP l i c).2=(locP l p c).2)):=by
 have pe:=pcs_e hg hz (view_len h1)
 have qe:=pcs_e hg hz (view_len h2)
 have va:=inv_all pe i1
 have vb:=inv_all qe i2
 rw [ea] at va
 rw [eb] at vb
 have oka:okM a:=okM_inv va (by rw [←ea];exact invC_len _)
 have okb:okM b:=okM_inv vb (by rw [←eb];exact invC_len _)
 have hgs:∀ g∈(agrL a b).1,szR 2280 g:=by
  obtain ⟨_,_,hl,_⟩:=agr_list hA
  intro g hg'
  rw [hl] at hg'
  obtain ⟨q,hq,hQ⟩:=List.mem_filterMap.1 hg'
  unfold agQ at hQ
  cases hpq:prI a b q with
  | none=>rw [hpq] at hQ;cases hQ
  | some x =>
   rw [hpq] at hQ
   obtain ⟨e,f⟩:=x
   obtain ⟨m1,m2⟩:=prI_mem hpq
   unfold agX at hQ
   dsimp only at hQ
   split at hQ
   ·rename_i hc
    cases hQ
    rw [Bool.and_eq_true] at hc
    exact agR_sz (va e (mG m1)) (vb f (mG m2)) hc.1
   ·cases hQ
 obtain ⟨k1,k2⟩:=agree_count oka okb hA c fun g hg'=>⟨(hr g hg').1,(hr g hg').2,fun e he=>((okM_rst va (hgs g hg') (hr g hg').1).1 e he).1⟩
 refine ⟨k1,k2.trans ?_⟩
 rw [←both_iff hg hp hi c]
 constructor
 ·rintro ⟨s,r1,r2⟩
  rw [←ea] at r1
  rw [←eb] at r2
  exact ⟨s,(inv_view hg hz h1 l1 i1 c s).1 r1,(inv_view hg hz h2 l2 i2 c s).1 r2⟩
 ·rintro ⟨s,r1,r2⟩
  have a1:=(inv_view hg hz h1 l1 i1 c s).2 r1
  have a2:=(inv_view hg hz h2 l2 i2 c s).2 r2
  rw [ea] at a1
  rw [eb] at a2
  exact ⟨s,a1,a2⟩
theorem agr_reg {a b:List En} (va:∀ x∈a,InvE x) (vb:∀ x∈b,InvE x) (hA:agrE a b=0):∀ g∈(agrL a b).1,okRg g∧szR 2280 g:=by
 obtain ⟨_,_,hl,hB⟩:=agr_list hA
 intro g hg'
 rw [hl] at hg'
 obtain ⟨q,hq,hQ⟩:=List.mem_filterMap.1 hg'
 unfold agQ at hQ
 cases hpq:prI a b q with
 | none=>rw [hpq] at hQ;cases hQ
 | some x =>
  rw [hpq] at hQ
  obtain ⟨e,f⟩:=x
  obtain ⟨m1,m2⟩:=prI_mem hpq
  have he:=mG m1
  have hf:=mG m2
  have hb:=hB e he f hf
  unfold agX at hQ
  dsimp only at hQ
  split at hQ
  ·rename_i hc
   cases hQ
   rw [Bool.and_eq_true] at hc
   unfold agB at hb
   rw [Bool.or_eq_false_iff,hc.1,Bool.true_and] at hb
   have hr:=hb.2
   unfold rdE at hr
   rw [decide_eq_false_iff_not] at hr
   exact ⟨⟨agP_ok hc.1,redH_ok,by show (redH _ _).length≤64;omega⟩,agR_sz (va e he) (vb f hf) hc.1⟩
  ·cases hQ
open Pm
open Go.RowKit Go.WideShapes
theorem anc_first {l:List St} (hg:GoodS l) {i:Nat} {L:List Nat} {p:Nat} (h:abvS l i=p::L) (hi:i<l.length):parS l i=some p∧∃ sp,l[p]? = some sp∧(namesS l (abvS l i))[0]? = some sp.1:=by
 have hn:∃ n,l.length=n+1:=⟨l.length-1,by omega⟩
 obtain ⟨n,hn⟩:=hn
 have e1:abvS l i=match parS l i with|some p=>p::abvF l n p|none=>[]:=by
  unfold abvS
  rw [hn]
  rfl
 have hp:parS l i=some p:=by
  cases hp:parS l i with
  | none=>rw [e1,hp] at h;cases h
  | some q =>
   rw [e1,hp] at h
   cases h
   rfl
 have hpl:=parS_lt hp
 refine ⟨hp,l[p],gE hpl,?_⟩
 rw [h]
 unfold namesS
 simp [gE hpl]
theorem find_of {l:List St} (hg:GoodS l) (hc:chkS l=0) {p:Nat} {sp:St} (h:l[p]? = some sp):findE l sp.1=0∧idxS l sp.1=some p:=by
 have h1:=(hg.nm p sp h).2
 refine ⟨?_,h1⟩
 unfold findE
 rw [if_pos hc,h1]
theorem viewT_ok {l:List St} {A:Option Addr} {c0:Nat} {name:ByteArray} {W:World} {i:Nat} {ps:List Pc} (h:STR W A c0 l) (hl:l.length≤100) (hz:SzS l) (hm:ML W) (hn:name.size≤9223372036854775807) (hf:findE l name=0) (hi:idxS l name=some i) (hv:vwF l l.length i=some ps) :
 Calls Tryz.prog 8 #[.slice A l.length c0,.string name] W fun e w'=>∃ B d,e=.returned (.tuple #[.slice B ps.length d,.int .i64 0])∧SV elE w' kN B d (ps.map entF)∧Below W.heap.size W w' :=
 (ViewS_any A c0 l name W h hl hz hm hn).mono fun e w' k=>k.1 ps (by unfold vewF;rw [if_pos hf,hi];dsimp only;rw [hv])
theorem viewT_no {l:List St} {A:Option Addr} {c0:Nat} {name:ByteArray} {W:World} {i:Nat} (h:STR W A c0 l) (hl:l.length≤100) (hz:SzS l) (hm:ML W) (hn:name.size≤9223372036854775807) (hf:findE l name=0) (hi:idxS l name=some i) (hv:vwF l l.length i=none) :
 Calls Tryz.prog 8 #[.slice A l.length c0,.string name] W fun e w'=>e=.returned (.tuple #[.slice none 0 0,.int .i64 80])∧Below W.heap.size W w' :=
 (ViewS_any A c0 l name W h hl hz hm hn).mono fun e w' k=>by
  have e1:vewF l name=(none,80):=by unfold vewF;rw [if_pos hf,hi];dsimp only;rw [hv]
  have:=k.2 (by rw [e1])
  rw [e1] at this
  exact this
theorem locT {l:List St} {A:Option Addr} {c0:Nat} {name c:ByteArray} {W:World} {i:Nat} (h:STR W A c0 l) (hl:l.length≤100) (hz:SzS l) (hm:ML W) (hn:name.size≤9223372036854775807) (hc:c.size≤1000) (hf:findE l name=0) (hi:idxS l name=some i) :
 Calls Tryz.prog 14 #[.slice A l.length c0,.string name,.string c] W fun e w'=>e=.returned (.tuple #[.int .i64 (locP l i c).1,.string (locP l i c).2,.int .i64 0])∧Below W.heap.size W w' :=
 (locate_any A c0 l name c W h hl hz hm hn hc).mono fun e w' k=>by
  have e1:locF l name c=((locP l i c).1,(locP l i c).2,0):=by
   unfold locF locP
   rw [if_pos hf,hi]
   dsimp only
   split<;>rfl
  have:=k
  unfold RetLc at this
  rw [e1] at this
  exact this
theorem ancT_some {l:List St} {A:Option Addr} {c0:Nat} {name:ByteArray} {W:World} {i:Nat} {pn:ByteArray} (h:STR W A c0 l) (hl:l.length≤100) (hz:SzS l) (hm:ML W) (hn:name.size≤9223372036854775807) (hf:findE l name=0) (hi:idxS l name=some i) (hp:(namesS l (abvS l i))[0]? = some pn) :
 Calls Tryz.prog 7 #[.slice A l.length c0,.string name] W fun e w'=>∃ b o n d,0<n∧n≤d∧d≤9223372036854775807∧e=.returned (.tuple #[.slice (some ⟨b,o,none⟩) n d,.int .i64 0])∧(w'.cell? ⟨b,o,none⟩=some (.string pn)∧b<w'.heap.size)∧Below W.heap.size W w' :=
 (ancestors_any A c0 l name W h hl hz hm hn).mono fun e w' k=>by
  obtain ⟨i',U,d,hi',rfl,hr,hb⟩:=k.1 hf
  rw [hi] at hi'
  cases hi'
  have h0:0<(namesS l (abvS l i)).length:=(sI.1 hp).1
  have hnl:(namesS l (abvS l i)).length=(abvS l i).length:=by unfold namesS;rw [List.length_map]
  obtain ⟨b,o,rfl,hlt,hc⟩:=hr.2.2 h0
  refine ⟨b,o,_,d,by omega,?_,hr.2.1,rfl,⟨?_,hlt⟩,hb⟩
  ·have:=hr.1;omega
  ·have:=hc 0 pn hp
   rw [Nat.add_zero] at this
   exact this
theorem ancT_nil {l:List St} {A:Option Addr} {c0:Nat} {name:ByteArray} {W:World} {i:Nat} (h:STR W A c0 l) (hl:l.length≤100) (hz:SzS l) (hm:ML W) (hn:name.size≤9223372036854775807) (hf:findE l name=0) (hi:idxS l name=some i) (hp:abvS l i=[]) :
 Calls Tryz.prog 7 #[.slice A l.length c0,.string name] W fun e w'=>∃ U d,e=.returned (.tuple #[.slice U 0 d,.int .i64 0])∧Below W.heap.size W w' :=
 (ancestors_any A c0 l name W h hl hz hm hn).mono fun e w' k=>by
  obtain ⟨i',U,d,hi',rfl,hr,hb⟩:=k.1 hf
  rw [hi] at hi'
  cases hi'
  rw [hp]
  exact ⟨U,d,rfl,hb⟩
theorem ancT_bad {l:List St} {A:Option Addr} {c0:Nat} {name:ByteArray} {W:World} (h:STR W A c0 l) (hl:l.length≤100) (hz:SzS l) (hm:ML W) (hn:name.size≤9223372036854775807) (hf:findE l name≠0) :
 Calls Tryz.prog 7 #[.slice A l.length c0,.string name] W fun e w'=>∃ n:Int,n≠0∧e=.returned (.tuple #[.slice none 0 0,.int .i64 n])∧Below W.heap.size W w' :=
 (ancestors_any A c0 l name W h hl hz hm hn).mono fun e w' k=>⟨_,hf,(k.2 hf).1,(k.2 hf).2⟩
theorem fineT (g:Nat) (x y:Int) (W:World) (h:BX W g [.int .i64 x,.int .i64 y]):Calls Tryz.prog 10 #[.slice (some ⟨g,0,none⟩) 2 2] W fun e w'=>e=.returned (.bool (fineB [x,y]))∧Below W.heap.size W w':=fine_any [x,y] g 2 W h (Nat.le_refl _) (by omega)
theorem agT_large (A:Option Addr) (c0:Nat) (l:List St) (name c:ByteArray) (w:World) (h:STR w A c0 l) (hr:StRd l) (hm:ML w) (hc:c.size≤9223372036854775807) (hs:¬ SmOk l) :
 Calls Tryz.prog 4 #[.slice A l.length c0,.string name,.string c] w fun e w'=>e=.returned (.bool true)∧Below w.heap.size w w':=by
 have HST:=lh h
 have HRD:=lh hr
 have HM:=lh hm
 have HBB:=lh (Below.refl w.heap.size w)
 have HSM:=lh hs
 clear h hr hm hs
 go_enter Tryz.func4,Tryz.ntmps4
 go_wp2_with (first
  | (go_at_call 5;refine (awake08_any _ (HM.out.below HBB.out)).mono ?_;rintro e w1 ⟨rfl,hb1⟩;replace HBB:=lh (go3 HBB.out hb1);clear hb1)
  | (go_at_call 6;refine (smallS_any A c0 l _ (HST.out.below HBB.out) HRD.out).mono ?_;rintro e w2 ⟨b,rfl,hb,hb2⟩;replace HBB:=lh (go3 HBB.out hb2);(obtain rfl:b=false:=(by cases b<;>first|rfl|exact absurd (hb rfl) HSM.out));clear hb2 hb))
 go_ret
 exact ⟨rfl,HBB.out⟩
theorem agT_long (A:Option Addr) (c0:Nat) (l:List St) (name c:ByteArray) (w:World) (h:STR w A c0 l) (hr:StRd l) (hm:ML w) (hc:c.size≤9223372036854775807) (hs:200<c.size) :
 Calls Tryz.prog 4 #[.slice A l.length c0,.string name,.string c] w fun e w'=>e=.returned (.bool true)∧Below w.heap.size w w':=by
 have HST:=lh h
 have HRD:=lh hr
 have HM:=lh hm
 have HBB:=lh (Below.refl w.heap.size w)
 have hi1:decide ((200:Int)<(c.size:Int))=true:=by simp;omega
 clear h hr hm hs
 go_enter Tryz.func4,Tryz.ntmps4
 go_wp2_with (first
  | (go_at_call 5;refine (awake08_any _ (HM.out.below HBB.out)).mono ?_;rintro e w1 ⟨rfl,hb1⟩;replace HBB:=lh (go3 HBB.out hb1);clear hb1)
  | (go_at_call 6;refine (smallS_any A c0 l _ (HST.out.below HBB.out) HRD.out).mono ?_;rintro e w2 ⟨b,rfl,-,hb2⟩;replace HBB:=lh (go3 HBB.out hb2);clear hb2;cases b))
 all_goals go_ret
 all_goals exact ⟨rfl,HBB.out⟩
end Go.Proofs.YtelkmeiepliecaaGreatDoor
