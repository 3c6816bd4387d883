/-
  Part 49 of the proof.
-/
import Derived.Test.YtelkmeiepliecaaGreatDoorU48
import Derived.Test.YtelkmeiepliecaaGreatDoorU47
set_option linter.unusedSimpArgs false
set_option linter.unusedVariables false
set_option maxHeartbeats 16000000
namespace Go.Proofs.YtelkmeiepliecaaGreatDoor
open Pm
theorem fT_no {l r:Pn} {s:ByteArray} (hk:rlOk l r) (h:mt l s=false):fT l r s=⟨#[]⟩:=by
 unfold fT fwdT trT
 rw [if_pos (show ruleE l.1 l.2 r.1 r.2=0 from hk),if_neg (by rw [show matchOk mpOk l.1 l.2 s=mt l s from rfl,h];decide)]
theorem nm_comp {l:List St} (hg:GoodS l) {i:Nat} {s:St} (hs:l[i]? = some s):comp s.1.data.toList=true∧s.1.size≤24:=by
 have:=(hg.nm i s hs).1
 unfold nameOk at this
 simp only [Bool.and_eq_true,decide_eq_true_eq] at this
 exact this.1
theorem kind1 {l:List St} (hg:GoodS l) {n i:Nat} {ps:List Pc} (h:pcsF l n i=some ps) {q:Pc} (hq:q∈ps) (h1:q.2.1=1):∃ s,l[i]? = some s∧q.2.2=(q.1.1,stoP q.1.1 s.1)∧q.1.1.1.getD 0 ⟨#[]⟩=viewN:=by
 have hp:=(pcs_ok hg _ _ _ h).ok q hq
 cases n with
 | zero=>cases h
 | succ n =>
  unfold pcsF at h
  split at h
  ·cases h
  ·rename_i s hs
   split at h
   ·cases h
   ·rename_i ab hab
    obtain ⟨m1,m2⟩:=row_mem _ _ h
    obtain ⟨k,p,q',hlt,hk,h4,hq',ho,rfl⟩:=(m1 q).1 hq
    obtain ⟨p1,p2,p3,p4⟩:=lineOk.parts ((hg.ln i s hs).2 p (mG hk))
    have hn:=(nm_comp hg hs).1
    have hk1:kindP p q'=1:=h1
    have h3:q'.2.1≠3:=fun e=>by unfold kindP at hk1;rw [if_pos e] at hk1;omega
    have h5:p.1≠3:=fun e=>by unfold kindP at hk1;rw [if_neg h3,if_pos e] at hk1;omega
    have hG:okPn (rmB (ownR s.2.2 k p) q'.1).1:=hp.rg.1
    have hmo:metO p.2.1 q'.1.1=true:=by
     unfold rmO at ho
     exact (Bool.and_eq_true _ _▸ho).1
    have hmt:∀ c,mt (rmB (ownR s.2.2 k p) q'.1).1 c=(mt p.2.1 c&&mt q'.1.1 c):=fun c=>met_mt hmo c
    have hrl:rlOk (nrL (wideP s.1 p q' (rmB (ownR s.2.2 k p) q'.1)).1 (wideP s.1 p q' (rmB (ownR s.2.2 k p) q'.1)).2 (rmB (ownR s.2.2 k p) q'.1).1) (nrR (wideP s.1 p q' (rmB (ownR s.2.2 k p) q'.1)).1 (wideP s.1 p q' (rmB (ownR s.2.2 k p) q'.1)).2 (rmB (ownR s.2.2 k p) q'.1).1):=hp.rl
    have hw:wideP s.1 p q' (rmB (ownR s.2.2 k p) q'.1)=((rmB (ownR s.2.2 k p) q'.1).1,stoP (rmB (ownR s.2.2 k p) q'.1).1 s.1):=by unfold wideP;rw [if_neg h3,if_neg h5]
    refine ⟨s,hs,?_,?_⟩
    ·show (nrL _ _ _,nrR _ _ _)=((rmB (ownR s.2.2 k p) q'.1).1,stoP (rmB (ownR s.2.2 k p) q'.1).1 s.1)
     rw [hw] at hrl ⊢
     generalize rmB (ownR s.2.2 k p) q'.1=G at *
     have hS:=sto_ok hG hn
     have hno:nrO G.1 (stoP G.1 s.1) G.1=true:=by
      cases e:nrO G.1 (stoP G.1 s.1) G.1 with
      | true=>rfl
      | false =>
       exfalso
       have h0:=(okPn_len hrl.okl).1
       unfold nrL narL at h0
       rw [if_neg (by rw [show narO _ _ _ _ _ _=false from e];decide)] at h0
       simp at h0
     have e:=same_rule (show ruleE (nrL G.1 (stoP G.1 s.1) G.1).1 (nrL G.1 (stoP G.1 s.1) G.1).2 (nrR G.1 (stoP G.1 s.1) G.1).1 (nrR G.1 (stoP G.1 s.1) G.1).2=0 from hrl) (show ruleE G.1.1 G.1.2 (stoP G.1 s.1).1 (stoP G.1 s.1).2=0 from hS) (fun x=>by
      show fO (nrL G.1 (stoP G.1 s.1) G.1) (nrR G.1 (stoP G.1 s.1) G.1) x=fO G.1 (stoP G.1 s.1) x∧fT (nrL G.1 (stoP G.1 s.1) G.1) (nrR G.1 (stoP G.1 s.1) G.1) x=fT G.1 (stoP G.1 s.1) x
      obtain ⟨y1,y2⟩:=nr_yes (s:=x) hno
      have y3:fO G.1 (stoP G.1 s.1) x=mt G.1 x:=fO_mt hS x
      have y4:fO (nrL G.1 (stoP G.1 s.1) G.1) (nrR G.1 (stoP G.1 s.1) G.1) x=fO G.1 (stoP G.1 s.1) x:=by rw [y1,y3,Bool.and_self]
      refine ⟨y4,?_⟩
      cases hf:mt G.1 x with
      | true=>exact y2 (by rw [y4,y3,hf])
      | false =>
       rw [fT_no hS hf,fT_no hrl (by rw [←fO_mt hrl,y4,y3,hf])])
     exact Prod.ext (Prod.ext e.1.1 e.1.2) (Prod.ext e.2.1 e.2.2)
    ·obtain ⟨c,hc⟩:=some_path hG
     have hc2:=hc
     rw [hmt,Bool.and_eq_true] at hc2
     obtain ⟨t,y,u,_,e2,_⟩:=first_view p2 hc2.1
     exact first_of hc e2
theorem sto_two {p:Pn} {own par c:ByteArray} (hv:p.1.getD 0 ⟨#[]⟩=viewN) (hn:comp own.data.toList=true) (hn':comp par.data.toList=true) (hm:mt p c=true) :
 rlOk (stoP p own) (stoP p par)∧fO (stoP p own) (stoP p par) (stoB own c)=true∧fT (stoP p own) (stoP p par) (stoB own c)=stoB par c:=by
 have hok:checkP p.1 p.2=0:=(mt_iff.1 hm).2.1
 obtain ⟨a1,a2,a3,a4⟩:=ruleE_zero.1 (show ruleE p.1 p.2 (stoP p own).1 (stoP p own).2=0 from sto_ok hok hn)
 obtain ⟨b1,b2,b3,b4⟩:=ruleE_zero.1 (show ruleE p.1 p.2 (stoP p par).1 (stoP p par).2=0 from sto_ok hok hn')
 have hrl:rlOk (stoP p own) (stoP p par):=ruleE_zero.2 ⟨a2,b2,a3.symm.trans b3,a4.symm.trans b4⟩
 obtain ⟨t,y,u,h1,h2,h3,_⟩:=first_view hv hm
 obtain ⟨_,hf,_⟩:=match_fil hm
 have hs:∀ nm,(stoP p nm).1=nm::t:=fun nm=>by unfold stoP;rw [h1];rfl
 rw [h1,h2] at hf
 obtain ⟨l',e,hf'⟩:=(Fil.lit viewN_st).1 hf
 cases e
 have hk:∀ nm,comp nm.data.toList=true→Fil (stoP p nm).1 (stoP p nm).2 (capsB stB mpCap p.1 p.2 c) (nm::y::u):=fun nm hnm=>by
  rw [hs]
  exact (Fil.lit (comp_42 hnm)).2 ⟨_,rfl,h1▸hf'⟩
 have:=fwd_mk hrl (hk own hn) (hk par hn')
 have e:c=joinB (viewN::y::u):=by rw [←h2];exact h3.symm
 refine ⟨hrl,?_⟩
 rw [e,stoB_join,stoB_join]
 exact this
def btN (par:ByteArray) (q:Pc):En:=((entF q).1,stoP q.1.1 par,(entF q).2.2)
theorem bt_mk {par:ByteArray} {q:Pc} {x t:ByteArray} (h1:inR ((entF q).1,(entF q).2.2) x=true) (h2:fO (entF q).1 (stoP q.1.1 par) x=true) (h3:fT (entF q).1 (stoP q.1.1 par) x=t):relN (btN par q) x t:=⟨h1,h2,h3⟩
theorem bt_un {par:ByteArray} {q:Pc} {x t:ByteArray} (h:relN (btN par q) x t):inR ((entF q).1,(entF q).2.2) x=true∧fO (entF q).1 (stoP q.1.1 par) x=true∧fT (entF q).1 (stoP q.1.1 par) x=t:=h
theorem bt_rel {l:List St} (hg:GoodS l) {n i:Nat} {s:St} (hs:l[i]? = some s) {par:ByteArray} (hpar:comp par.data.toList=true) {ps:List Pc} (h:vwF l n i=some ps) (ok:∀ q∈ps,okEn (entF q)) {q:Pc} (hq:q∈ps) (h1:q.2.1=1) (x t:ByteArray) :
 relN (btN par q) x t↔∃ c,inR q.1 c=true∧x=stoB s.1 c∧t=stoB par c:=by
 obtain ⟨hpc,hen⟩:=vw_parts h
 obtain ⟨s',hs',hl,hv⟩:=kind1 hg hpc hq h1
 rw [hs] at hs'
 cases hs'
 have hn:=(nm_comp hg hs).1
 have hok:=(pcs_ok hg _ _ _ hpc).ok q hq
 have e1:(entF q).1=stoP q.1.1 s.1:=by show q.2.2.2=_;rw [hl]
 have mtc:∀ {c},inR q.1 c=true→mt q.1.1 c=true:=fun hc=>by
  unfold inR at hc
  exact (Bool.and_eq_true _ _▸hc).1
 have er:∀ {x c},relN (entF q) x c↔(inR q.1 c=true∧stoB s.1 c=x):=fun {x c}=>by
  rw [ent_rel hok (hen q hq),hl]
  constructor
  ·rintro ⟨k1,k2,k3⟩
   exact ⟨k1,(sto_fwd hv hn (mtc k1)).2.symm.trans k3⟩
  ·rintro ⟨k1,k2⟩
   obtain ⟨k3,k4⟩:=sto_fwd hv hn (mtc k1)
   exact ⟨k1,k3,k4.trans k2⟩
 constructor
 ·intro hr0
  obtain ⟨k1,k2,k3⟩:=bt_un hr0
  have hr:=lf_rel (ok q hq) (show inR (lfR (entF q)) x=true from k1)
  generalize fT (entF q).1 (entF q).2.1 x=c at hr
  obtain ⟨m1,m2⟩:=er.1 hr
  obtain ⟨_,_,z2⟩:=sto_two hv hn hpar (mtc m1)
  refine ⟨c,m1,m2.symm,?_⟩
  rw [←k3,e1,← m2]
  exact z2
 ·rintro ⟨c,k1,rfl,rfl⟩
  have hr:relN (entF q) (stoB s.1 c) c:=er.2 ⟨k1,rfl⟩
  obtain ⟨z0,z1,z2⟩:=sto_two hv hn hpar (mtc k1)
  exact bt_mk hr.1 (by rw [e1];exact z1) (by rw [e1];exact z2)
theorem bt_mem {par:ByteArray} {ps:List Pc} {e:En}:e∈btwF par ps↔∃ q∈ps,q.2.1=1∧e=btN par q:=by
 unfold btwF
 rw [List.mem_map]
 constructor
 ·rintro ⟨q,hq,rfl⟩
  obtain ⟨h1,h2⟩:=List.mem_filter.1 hq
  exact ⟨q,h1,by simpa using h2,rfl⟩
 ·rintro ⟨q,h1,h2,rfl⟩
  exact ⟨q,List.mem_filter.2 ⟨h1,by simpa using h2⟩,rfl⟩
theorem bt_one {l:List St} (hg:GoodS l) {n i:Nat} {s:St} (hs:l[i]? = some s) {par:ByteArray} (hpar:comp par.data.toList=true) {ps:List Pc} (h:vwF l n i=some ps) (ok:∀ q∈ps,okEn (entF q)):(btwF par ps).Pairwise oneE:=by
 obtain ⟨hpc,hen⟩:=vw_parts h
 have hn:=(nm_comp hg hs).1
 unfold btwF
 rw [List.pairwise_map]
 refine ((pcs_dis hpc).filter _).imp_of_mem fun {q q'} hq hq' hd x x' t t' r r'=>?_
 obtain ⟨hq,k1⟩:=List.mem_filter.1 hq
 obtain ⟨hq',k1'⟩:=List.mem_filter.1 hq'
 have k1:q.2.1=1:=by simpa using k1
 have k1':q'.2.1=1:=by simpa using k1'
 obtain ⟨c,c1,rfl,rfl⟩:=(bt_rel hg hs hpar h ok hq k1 x t).1 r
 obtain ⟨c',c1',rfl,rfl⟩:=(bt_rel hg hs hpar h ok hq' k1' x' t').1 r'
 obtain ⟨_,_,_,hv⟩:=kind1 hg hpc hq k1
 obtain ⟨_,_,_,hv'⟩:=kind1 hg hpc hq' k1'
 have mtc:∀ {q:Pc} {c},inR q.1 c=true→mt q.1.1 c=true:=fun hc=>by
  unfold inR at hc
  exact (Bool.and_eq_true _ _▸hc).1
 have hne:c≠c':=fun e=>hd c ⟨c1,e▸c1'⟩
 exact ⟨fun e=>hne (sto_inj hv hv' (mtc c1) (mtc c1') hn hn e).2,fun e=>hne (sto_inj hv hv' (mtc c1) (mtc c1') hpar hpar e).2⟩
theorem bt_ok {l:List St} (hg:GoodS l) {n i:Nat} {s:St} (hs:l[i]? = some s) {par:ByteArray} (hpar:comp par.data.toList=true) (hsz:par.size≤40) {ps:List Pc} (h:vwF l n i=some ps) (hp:∀ q∈ps,PcE q):∀ e∈btwF par ps,okEn e∧szE 160 e:=fun e he=>by
 obtain ⟨q,hq,h1,rfl⟩:=bt_mem.1 he
 obtain ⟨hpc,hen⟩:=vw_parts h
 obtain ⟨s',hs',hl,hv⟩:=kind1 hg hpc hq h1
 rw [hs] at hs'
 cases hs'
 obtain ⟨k1,k2,k3,k4⟩:=(hp q hq).en
 obtain ⟨c,hc⟩:=some_path (hp q hq).ok.rg.1
 have e1:(entF q).1=stoP q.1.1 s.1:=by show q.2.2.2=_;rw [hl]
 refine ⟨⟨?_,k1.2⟩,szN_up k2 (by omega),fun x hx=>?_,fun x hx=>szN_up (k4 x hx) (by omega)⟩
 ·show rlOk (entF q).1 (stoP q.1.1 par)
  rw [e1]
  exact (sto_two hv (nm_comp hg hs).1 hpar hc).1
 ·have hx:x∈q.1.1.1.set 0 par:=hx
  rcases List.mem_or_eq_of_mem_set hx with hx|rfl
  ·exact Nat.le_trans ((hp q hq).rg.1 x hx) (by omega)
  ·exact Nat.le_trans hsz (by omega)
theorem cmX_sz {m:Nat} {e f:En} (he:szE m e) (hf:szE m f) (ho:chO' e f=true):szN (m+m) (chPL e f)∧szN (m+m) (chPR e f)∧∀ h∈chH e f,szN (m+m) h:=by
 have ho':chO e.1.1 e.1.2 e.2.1.1 e.2.1.2 f.1.1 f.1.2 f.2.1.1 f.2.1.2=true:=ho
 have hm:=(ch_parts.1 ho').2.1
 have k1:=meet_sz hm he.2.1 hf.1
 refine ⟨fun x hx=>?_,fun x hx=>?_,fun h hh=>?_⟩
 ·have hx:x∈chL e.1.1 e.1.2 e.2.1.1 e.2.1.2 f.1.1 f.1.2 f.2.1.1 f.2.1.2:=hx
  unfold chL at hx
  rw [if_pos ho'] at hx
  exact sub_sz he.1 (bnd_sz k1) x hx
 ·have hx:x∈chR e.1.1 e.1.2 e.2.1.1 e.2.1.2 f.1.1 f.1.2 f.2.1.1 f.2.1.2:=hx
  unfold chR at hx
  rw [if_pos ho'] at hx
  exact sub_sz hf.2.1 (bnd_sz k1) x hx
 ·unfold chH at hh
  rcases List.mem_append.1 hh with hh|hh
  ·exact szN_up (he.2.2 h hh) (by omega)
  ·exact nrsR_sz2 he.2.1 he.1 hf.2.2 h hh
theorem cm_pre {m:Nat} (hm:m≤1200) {a b:List En} (ha:∀ e∈a,okEn e∧szE m e) (hb:∀ e∈b,okEn e∧szE m e):∀ e∈a,∀ f∈b,chO' e f=true→szP (chPL e f)∧(chPR e f).1.length≤100000∧∀ q∈chH e f,szP q:=fun e he f hf ho=>by
 obtain ⟨k1,k2,k3⟩:=cmX_sz (ha e he).2 (hb f hf).2 ho
 have hr:=ch_ok ho
 refine ⟨szP_of hr.okl k1 (by omega),by have:=(okPn_len hr.okr).2;omega,fun q hq=>?_⟩
 refine szP_of ?_ (k3 q hq) (by omega)
 unfold chH at hq
 rcases List.mem_append.1 hq with hq|hq
 ·exact (ha e he).1.2.2.1 q hq
 ·exact nrsR_okp q hq
theorem cm_all {m:Nat} {a b:List En} (ha:∀ e∈a,okEn e∧szE m e) (hb:∀ e∈b,okEn e∧szE m e) (h:cmpE a b=0):∀ x∈(cmpL a b).1,okEn x∧szE (m+m) x:=fun x hx=>by
 obtain ⟨_,_,hl,hB⟩:=cmp_list h
 rw [hl] at hx
 obtain ⟨q,hq,hQ⟩:=List.mem_filterMap.1 hx
 obtain ⟨e,f,hp,he,hf,hX⟩:=cm_pair hQ
 unfold cmX at hX
 split at hX
 ·rename_i ho
  obtain ⟨k1,k2,k3⟩:=cmX_sz (ha e he).2 (hb f hf).2 ho
  obtain ⟨e1,e2,e3,e4⟩:=putO_ok hX (ch_ok ho)
  refine ⟨e4,?_,?_,?_⟩
  ·rw [e1];exact k1
  ·rw [e2];exact k2
  ·rw [e3];exact redH_sz k1 k3
 ·cases hX
theorem see_share {l:List St} (hg:GoodS l) {i p:Nat} (hp:parS l i=some p) (hi:i<l.length) {s sp:St} (hs:l[i]? = some s) (hsp:l[p]? = some sp) {c:ByteArray} (h:(seeF l c l.length i).1=1) :
 (seeF l c l.length i).2=stoB s.1 c∧(seeF l c l.length p).1≠0∧(seeF l c l.length p).2=stoB sp.1 c:=by
 obtain ⟨n,hn⟩:∃ n,l.length=n+1:=⟨l.length-1,by omega⟩
 have hok:=hg.okF hi
 have hokp:okF l n p:=by
  rw [hn] at hok
  unfold okF at hok
  rw [hp] at hok
  exact hok
 have hfu:=see_fuel (c:=c) hokp
 have hci:=see_cases hg (n:=n) hs c
 have hcp:=see_cases hg (n:=n) hsp c
 rw [←hn] at hci hcp
 rcases hci with e|⟨q,hq,hm,ab,hab,hne,hcs⟩
 ·omega
 obtain rfl:ab=seeF l c l.length p:=by
  rw [hab,hp,hn]
  exact hfu.symm
 rcases hcs with ⟨a3,e⟩|⟨a3,hq3,e⟩|⟨a3,hq3,k,hk,e⟩
 ·rw [e] at h;cases h
 ·rw [e] at h;cases h
 ·refine ⟨by rw [e],hne,?_⟩
  rcases hcp with e'|⟨q',hq',hm',ab',_,hne',hcs'⟩
  ·exact absurd e' hne
  ·rcases hcs' with ⟨_,e'⟩|⟨_,_,e'⟩|⟨_,_,k',_,e'⟩
   ·rw [e'] at a3;exact absurd rfl a3
   ·rw [e'] at a3;exact absurd rfl a3
   ·rw [e']
theorem views_rel {l:List St} (hg:GoodS l) (hz:Sz40 l) {i p:Nat} (hp:parS l i=some p) (hi:i<l.length) {s:St} (hs:l[i]? = some s) {ps qs:List Pc} (h1:vwF l l.length i=some ps) (h2:vwF l l.length p=some qs) (l1:ps.length≤32) (l2:qs.length≤32) (i1:invE (ps.map entF)=0)
 (c1:cmpE (invC (ps.map entF)).1 (btwF s.2.1 ps)=0) (c2:cmpE (cmpL (invC (ps.map entF)).1 (btwF s.2.1 ps)).1 (qs.map entF)=0) (c t:ByteArray) :
 relE (cmpL (cmpL (invC (ps.map entF)).1 (btwF s.2.1 ps)).1 (qs.map entF)).1 c t↔((seeF l c l.length i).1=1∧t=c):=by
 have hpl:=parS_lt hp
 obtain ⟨sp,hsp⟩:∃ s,l[p]? = some s:=⟨_,gE hpl⟩
 have hnm:sp.1=s.2.1:=by
  unfold parS at hp
  rw [hs] at hp
  dsimp only at hp
  split at hp
  ·cases hp
  ·obtain ⟨t,ht,e⟩:=idxS_name hp
   rw [hsp] at ht
   cases ht
   exact e
 have hpar:comp s.2.1.data.toList=true:=hnm▸(nm_comp hg hsp).1
 have hpz:s.2.1.size≤40:=by have:=(nm_comp hg hsp).2;rw [hnm] at this;omega
 have pe:=pcs_e hg hz (view_len h1)
 have qe:=pcs_e hg hz (view_len h2)
 have ok1:∀ q∈ps,okEn (entF q):=fun q hq=>(pe q hq).en.1
 have va:∀ e∈(invC (ps.map entF)).1,okEn e∧szE 160 e:=fun e he=>⟨(inv_all pe i1 e he).ok,(inv_all pe i1 e he).sz⟩
 have vb:=bt_ok hg hs hpar hpz h1 pe
 have vo:=cm_all va vb c1
 have pp:=pcs_ok hg _ _ _ (view_len h1)
 rw [cmp_rel (fun e he=>(vo e he).1) (fun e he=>by
  obtain ⟨q,hq,rfl⟩:=List.mem_map.1 he
  exact (qe q hq).en.1) c2]
 constructor
 ·rintro ⟨u,r1,r2⟩
  obtain ⟨x,r3,e,he,r4⟩:=(cmp_rel (fun e he=>(va e he).1) (fun e he=>(vb e he).1) c1 c u).1 r1
  obtain ⟨q,hq,k1,rfl⟩:=bt_mem.1 he
  obtain ⟨c0,m1,rfl,rfl⟩:=(bt_rel hg hs hpar h1 ok1 hq k1 x u).1 r4
  have r3:=(inv_view hg hz h1 l1 i1 c _).1 r3
  have hv:=pp.val c0 q hq m1
  have hv1:(seeF l c0 l.length i).1=1:=hv.1.trans k1
  obtain ⟨w1,w2,w3⟩:=see_share hg hp hi hs hsp hv1
  obtain rfl:=see_inj hg hi r3 ⟨by rw [hv1];decide,w1⟩
  have r2:=(vw_rel hg h2 _ _).1 r2
  exact ⟨hv1,see_inj hg hpl r2 ⟨w2,w3.trans (by rw [hnm])⟩⟩
 ·rintro ⟨h,rfl⟩
  obtain ⟨w1,w2,w3⟩:=see_share hg hp hi hs hsp h
  have h0:(seeF l t l.length i).1≠0:=by rw [h];decide
  obtain ⟨q,hq,m1⟩:=pp.has t h0
  have hv:=pp.val t q hq m1
  have k1:q.2.1=1:=hv.1.symm.trans h
  refine ⟨stoB s.2.1 t,?_,(vw_rel hg h2 _ _).2 ⟨w2,w3.trans (by rw [hnm])⟩⟩
  refine (cmp_rel (fun e he=>(va e he).1) (fun e he=>(vb e he).1) c1 t _).2 ⟨stoB s.1 t,(inv_view hg hz h1 l1 i1 t _).2 ⟨h0,w1⟩,btN s.2.1 q,bt_mem.2 ⟨q,hq,k1,rfl⟩,(bt_rel hg hs hpar h1 ok1 hq k1 _ _).2 ⟨t,m1,rfl,rfl⟩⟩
theorem views_law {l:List St} (hg:GoodS l) (hz:Sz40 l) {i p:Nat} (hp:parS l i=some p) (hi:i<l.length) {s:St} (hs:l[i]? = some s) {ps qs:List Pc} (h1:vwF l l.length i=some ps) (h2:vwF l l.length p=some qs) (l1:ps.length≤32) (l2:qs.length≤32) (i1:invE (ps.map entF)=0)
 (c1:cmpE (invC (ps.map entF)).1 (btwF s.2.1 ps)=0) (c2:cmpE (cmpL (invC (ps.map entF)).1 (btwF s.2.1 ps)).1 (qs.map entF)=0) {m:List En} (em:(cmpL (cmpL (invC (ps.map entF)).1 (btwF s.2.1 ps)).1 (qs.map entF)).1=m) (hc:∀ e∈m,okEn e) (c:ByteArray) :
 forL m c=if (locP l i c).1=1 then (c,true) else (⟨#[]⟩,false):=by
 have hr:=views_rel hg hz hp hi hs h1 h2 l1 l2 i1 c1 c2 c
 rw [em] at hr
 obtain ⟨f1,f2⟩:=forL_rel (s:=c) hc
 have hl:(locP l i c).1=1↔(seeF l c l.length i).1=1:=by
  unfold locP
  by_cases hb:belowV c=true
  ·rw [if_pos hb]
  ·rw [if_neg hb]
   constructor
   ·intro h;cases h
   ·intro h;exact absurd (see_below hg (by rw [h];decide)) hb
 cases hf:(forL m c).2 with
 | true =>
  obtain ⟨k1,k2⟩:=(hr _).1 (f1 hf)
  rw [if_pos (hl.2 k1)]
  exact Prod.ext k2 hf
 | false =>
  obtain ⟨k1,k2⟩:=f2 hf
  rw [if_neg fun h=>k2 c ((hr c).2 ⟨hl.1 h,rfl⟩)]
  exact Prod.ext k1 hf
open Pm
open Go.RowKit Go.WideShapes
theorem tvT_large (A:Option Addr) (c0:Nat) (l:List St) (name c:ByteArray) (w:World) (h:STR w A c0 l) (hr:StRd l) (hm:ML w) (hc:c.size≤9223372036854775807) (hs:¬ SmOk l) :
 Calls Tryz.prog 3 #[.slice A l.length c0,.string name,.string c] w fun e w'=>e=.returned (.bool true)∧Below w.heap.size w w':=by
 have HST:=lh h
 have HRD:=lh hr
 have HM:=lh hm
 have HBB:=lh (Below.refl w.heap.size w)
 have HSM:=lh hs
 clear h hr hm hs
 go_enter Tryz.func3,Tryz.ntmps3
 go_wp2_with (first
  | (go_at_call 5;refine (awake08_any _ (HM.out.below HBB.out)).mono ?_;rintro e w1 ⟨rfl,hb1⟩;replace HBB:=lh (go3 HBB.out hb1);clear hb1)
  | (go_at_call 6;refine (smallS_any A c0 l _ (HST.out.below HBB.out) HRD.out).mono ?_;rintro e w2 ⟨b,rfl,hb,hb2⟩;replace HBB:=lh (go3 HBB.out hb2);(obtain rfl:b=false:=(by cases b<;>first|rfl|exact absurd (hb rfl) HSM.out));clear hb2 hb))
 go_ret
 exact ⟨rfl,HBB.out⟩
theorem tvT_long (A:Option Addr) (c0:Nat) (l:List St) (name c:ByteArray) (w:World) (h:STR w A c0 l) (hr:StRd l) (hm:ML w) (hc:c.size≤9223372036854775807) (hs:200<c.size) :
 Calls Tryz.prog 3 #[.slice A l.length c0,.string name,.string c] w fun e w'=>e=.returned (.bool true)∧Below w.heap.size w w':=by
 have HST:=lh h
 have HRD:=lh hr
 have HM:=lh hm
 have HBB:=lh (Below.refl w.heap.size w)
 have hi1:decide ((200:Int)<(c.size:Int))=true:=by simp;omega
 clear h hr hm hs
 go_enter Tryz.func3,Tryz.ntmps3
 go_wp2_with (first
  | (go_at_call 5;refine (awake08_any _ (HM.out.below HBB.out)).mono ?_;rintro e w1 ⟨rfl,hb1⟩;replace HBB:=lh (go3 HBB.out hb1);clear hb1)
  | (go_at_call 6;refine (smallS_any A c0 l _ (HST.out.below HBB.out) HRD.out).mono ?_;rintro e w2 ⟨b,rfl,-,hb2⟩;replace HBB:=lh (go3 HBB.out hb2);clear hb2;cases b))
 all_goals go_ret
 all_goals exact ⟨rfl,HBB.out⟩
theorem tvT_find (A:Option Addr) (c0:Nat) (l:List St) (name c:ByteArray) (w:World) (h:STR w A c0 l) (hr:StRd l) (hm:ML w) (hc:c.size≤200) (hn:name.size≤9223372036854775807) (hs:SmOk l) (hf:findE l name≠0) :
 Calls Tryz.prog 3 #[.slice A l.length c0,.string name,.string c] w fun e w'=>e=.returned (.bool true)∧Below w.heap.size w w':=by
 have HST:=lh h
 have HRD:=lh hr
 have HM:=lh hm
 have HBB:=lh (Below.refl w.heap.size w)
 have hi1:decide ((200:Int)<(c.size:Int))=false:=by simp;omega
 have hl20:l.length≤100:=by have:=hs.1;omega
 have HZ:=lh hs.sz
 have HAN:=lh (fun W (hW:Below w.heap.size w W)=>ancT_bad (h.below hW) hl20 hs.sz (hm.below hW) hn hf)
 clear h hr hm hs hf
 go_enter Tryz.func3,Tryz.ntmps3
 go_wp2_with (first
  | (go_at_call 5;refine (awake08_any _ (HM.out.below HBB.out)).mono ?_;rintro e w1 ⟨rfl,hb1⟩;replace HBB:=lh (go3 HBB.out hb1);clear hb1)
  | (go_at_call 6;refine (smallS_any A c0 l _ (HST.out.below HBB.out) HRD.out).mono ?_;rintro e w2 ⟨b,rfl,-,hb2⟩;replace HBB:=lh (go3 HBB.out hb2);clear hb2;cases b)
  | (go_at_call 7;refine (HAN.out _ HBB.out).mono ?_;rintro e w3 ⟨n,hn0,rfl,hb3⟩;replace HBB:=lh (go3 HBB.out hb3);have hnb:(n != 0)=true:=(by simpa using hn0);clear hb3))
 all_goals go_ret
 all_goals exact ⟨rfl,HBB.out⟩
theorem tvT_main (A:Option Addr) (c0:Nat) (l:List St) (name c:ByteArray) (w:World) (h:STR w A c0 l) (hr:StRd l) (hm:ML w) (hc:c.size≤200) (hn:name.size≤9223372036854775807) (hs:SmOk l) {i:Nat} (hf:findE l name=0) (hi:idxS l name=some i) (ha:abvS l i=[]) :
 Calls Tryz.prog 3 #[.slice A l.length c0,.string name,.string c] w fun e w'=>e=.returned (.bool true)∧Below w.heap.size w w':=by
 have HST:=lh h
 have HRD:=lh hr
 have HM:=lh hm
 have HBB:=lh (Below.refl w.heap.size w)
 have hi1:decide ((200:Int)<(c.size:Int))=false:=by simp;omega
 have hl20:l.length≤100:=by have:=hs.1;omega
 have HZ:=lh hs.sz
 have HAN:=lh (fun W (hW:Below w.heap.size w W)=>ancT_nil (h.below hW) hl20 hs.sz (hm.below hW) hn hf hi ha)
 clear h hr hm hs hf
 go_enter Tryz.func3,Tryz.ntmps3
 go_wp2_with (first
  | (go_at_call 5;refine (awake08_any _ (HM.out.below HBB.out)).mono ?_;rintro e w1 ⟨rfl,hb1⟩;replace HBB:=lh (go3 HBB.out hb1);clear hb1)
  | (go_at_call 6;refine (smallS_any A c0 l _ (HST.out.below HBB.out) HRD.out).mono ?_;rintro e w2 ⟨b,rfl,-,hb2⟩;replace HBB:=lh (go3 HBB.out hb2);clear hb2;cases b)
  | (go_at_call 7;refine (HAN.out _ HBB.out).mono ?_;rintro e w3 ⟨U,d,rfl,hb3⟩;replace HBB:=lh (go3 HBB.out hb3);clear hb3))
 all_goals go_ret
 all_goals exact ⟨rfl,HBB.out⟩
theorem fineT3 (g:Nat) (x y z:Int) (W:World) (h:BX W g [.int .i64 x,.int .i64 y,.int .i64 z]):Calls Tryz.prog 10 #[.slice (some ⟨g,0,none⟩) 3 3] W fun e w'=>e=.returned (.bool (fineB [x,y,z]))∧Below W.heap.size W w':=fine_any [x,y,z] g 3 W h (Nat.le_refl _) (by omega)
theorem fine3_l {x y z:Int} (h:x≠0):fineB [x,y,z]=false:=by
 unfold fineB
 simp [h]
theorem fine3_m {x y z:Int} (h:y≠0):fineB [x,y,z]=false:=by
 unfold fineB
 simp [h]
theorem betT_ok {l:List St} {A:Option Addr} {c0:Nat} {name:ByteArray} {W:World} {i:Nat} {st:St} {ps:List Pc} {bt:List En} (h:STR W A c0 l) (hl:l.length≤100) (hz:SzS l) (hm:ML W) (hn:name.size≤9223372036854775807) (hf:findE l name=0) (hi:idxS l name=some i) (hst:l[i]? = some st) (hsz:st.2.1.size≠0) (hv:vwF l l.length i=some ps) (eb:btwF st.2.1 ps=bt) :
 Calls Tryz.prog 9 #[.slice A l.length c0,.string name] W fun e w'=>∃ B d,e=.returned (.tuple #[.slice B bt.length d,.int .i64 0])∧SV elE w' kN B d bt∧Below W.heap.size W w' :=
 (betS_any A c0 l name W h hl hz hm hn).mono fun e w' k=>k.1 bt (by unfold betF;rw [if_pos hf,hi];dsimp only;rw [hst];dsimp only;rw [if_neg hsz,hv];dsimp only;rw [eb])
theorem betT_any {l:List St} {A:Option Addr} {c0:Nat} {name:ByteArray} {W:World} (h:STR W A c0 l) (hl:l.length≤100) (hz:SzS l) (hm:ML W) (hn:name.size≤9223372036854775807) :
 Calls Tryz.prog 9 #[.slice A l.length c0,.string name] W fun e w'=>∃ (B:Option Addr) (n d:Nat) (k:Int),e=.returned (.tuple #[.slice B n d,.int .i64 k])∧Below W.heap.size W w' :=
 (betS_any A c0 l name W h hl hz hm hn).mono fun e w' k=>by
  cases hv:(betF l name).1 with
  | some ps =>
   obtain ⟨B,d,h1,_,h3⟩:=k.1 ps hv
   exact ⟨B,_,d,0,h1,h3⟩
  | none =>
   obtain ⟨h1,h3⟩:=k.2 hv
   exact ⟨none,0,0,_,h1,h3⟩
def CmPre (a b:List En):Prop:=∀ e∈a,∀ f∈b,chO' e f=true→szP (chPL e f)∧(chPR e f).1.length≤100000∧∀ q∈chH e f,szP q
theorem cmpT_ok {a b:List En} {A B:Option Addr} {c d:Nat} {W:World} (ha:SV elE W kN A c a) (hb:SV elE W kN B d b) (oka:okM a) (okb:okM b) (hm:ML W) (hp:CmPre a b) (hz:cmpE a b=0) :
 Calls Tryz.prog 12 #[.slice A a.length c,.slice B b.length d] W fun e w'=>∃ B d,e=.returned (.tuple #[.slice B (cmpL a b).1.length d,.int .i64 0])∧SV elE w' kN B d (cmpL a b).1∧Below W.heap.size W w' :=
 (compose_any a b A B c d W ha hb oka okb hm hp).mono fun e w' k=>k.2 hz
theorem cmpT_bad {a b:List En} {A B:Option Addr} {c d:Nat} {W:World} (ha:SV elE W kN A c a) (hb:SV elE W kN B d b) (oka:okM a) (okb:okM b) (hm:ML W) (hp:CmPre a b) {n:Int} (hz:cmpE a b=n) (hn:n≠0) :
 Calls Tryz.prog 12 #[.slice A a.length c,.slice B b.length d] W fun e w'=>e=.returned (.tuple #[.slice none 0 0,.int .i64 n])∧Below W.heap.size W w' :=
 (compose_any a b A B c d W ha hb oka okb hm hp).mono fun e w' k=>by
  subst hz
  exact k.1 hn
theorem tvT_own (A:Option Addr) (c0:Nat) (l:List St) (name c:ByteArray) (w:World) (h:STR w A c0 l) (hr:StRd l) (hm:ML w) (hc:c.size≤200) (hn:name.size≤9223372036854775807) (hs:SmOk l) {i p:Nat} {pn:ByteArray} (hf:findE l name=0) (hi:idxS l name=some i) (hpn:(namesS l (abvS l i))[0]? = some pn) (hnp:pn.size≤9223372036854775807) (hf2:findE l pn=0) (hi2:idxS l pn=some p) (hv:vwF l l.length i=none) :
 Calls Tryz.prog 3 #[.slice A l.length c0,.string name,.string c] w fun e w'=>e=.returned (.bool true)∧Below w.heap.size w w':=by
 have HST:=lh h
 have HRD:=lh hr
 have HM:=lh hm
 have HBB:=lh (Below.refl w.heap.size w)
 have hi1:decide ((200:Int)<(c.size:Int))=false:=by simp;omega
 have hl20:l.length≤100:=by have:=hs.1;omega
 have HZ:=lh hs.sz
 have HAN:=lh (fun W (hW:Below w.heap.size w W)=>ancT_some (h.below hW) hl20 hs.sz (hm.below hW) hn hf hi hpn)
 have HV1:=lh (fun W (hW:Below w.heap.size w W)=>viewT_no (h.below hW) hl20 hs.sz (hm.below hW) hn hf hi hv)
 have HV2:=lh (fun W (hW:Below w.heap.size w W)=>viewT_any (name:=pn) (h.below hW) hl20 hs.sz (hm.below hW) hnp)
 have HBT:=lh (fun W (hW:Below w.heap.size w W)=>betT_any (name:=name) (h.below hW) hl20 hs.sz (hm.below hW) hn)
 clear hv
 clear h hr hm hs hf hi hpn hf2 hi2
 go_enter Tryz.func3,Tryz.ntmps3
 go_wp2_with (first
  | (go_at_call 5;refine (awake08_any _ (HM.out.below HBB.out)).mono ?_;rintro e w1 ⟨rfl,hb1⟩;replace HBB:=lh (go3 HBB.out hb1);clear hb1)
  | (go_at_call 6;refine (smallS_any A c0 l _ (HST.out.below HBB.out) HRD.out).mono ?_;rintro e w2 ⟨b,rfl,-,hb2⟩;replace HBB:=lh (go3 HBB.out hb2);clear hb2;cases b)
  | (go_at_call 7;refine (HAN.out _ HBB.out).mono ?_;rintro e w3 ⟨b,o,n,d,h0,hnd,hd9,rfl,hu,hb3⟩;replace HBB:=lh (go3 HBB.out hb3);have HU:At (fun W=>W.cell? ⟨b,o,none⟩=some (.string pn)∧b<W.heap.size) w3:=⟨fun X Y h hb=>⟨(hb.cell (p:=⟨b,o,none⟩) h.2).trans h.1,Nat.lt_of_lt_of_le h.2 hb.size⟩,hu⟩;have hn0:((n:Int)==0)=false:=(by simp;omega);clear hb3 hu)
  | (go_at_call_of 8 (Value.string name);refine (HV1.out _ HBB.out).mono ?_;rintro e w4 ⟨rfl,hb4⟩;replace HBB:=lh (go3 HBB.out hb4);replace HU:=HU.go2 bB hb4;obtain ⟨x0,xl⟩:=HU.out;clear hb4)|(go_at_call_of 8 (Value.string pn);refine (HV2.out _ HBB.out).mono ?_;rintro e w5 ⟨B5,n5,d5,k5,rfl,hb5⟩;replace HBB:=lh (go3 HBB.out hb5);clear hb5)|(go_at_call 9;refine (HBT.out _ HBB.out).mono ?_;rintro e w6 ⟨B6,n6,d6,k6,rfl,hb6⟩;replace HBB:=lh (go3 HBB.out hb6);have HFF:=lh (fine3_l (x:=80) (y:=k5) (z:=k6) (by decide));clear hb6)|(go_at_call 10;refine (fineT3 _ _ _ _ _ (BX.new _ [_,_,_] _ rfl)).mono ?_;rintro e wF ⟨rfl,hbF⟩;rw [HFF.out];replace HBB:=lh (go3 (go3 HBB.out (ba _ _)) hbF);clear hbF))
 all_goals go_ret
 all_goals exact ⟨rfl,HBB.out⟩
theorem tvT_par (A:Option Addr) (c0:Nat) (l:List St) (name c:ByteArray) (w:World) (h:STR w A c0 l) (hr:StRd l) (hm:ML w) (hc:c.size≤200) (hn:name.size≤9223372036854775807) (hs:SmOk l) {i p:Nat} {pn:ByteArray} (hf:findE l name=0) (hi:idxS l name=some i) (hpn:(namesS l (abvS l i))[0]? = some pn) (hnp:pn.size≤9223372036854775807) (hf2:findE l pn=0) (hi2:idxS l pn=some p) (hv2:vwF l l.length p=none) :
 Calls Tryz.prog 3 #[.slice A l.length c0,.string name,.string c] w fun e w'=>e=.returned (.bool true)∧Below w.heap.size w w':=by
 have HST:=lh h
 have HRD:=lh hr
 have HM:=lh hm
 have HBB:=lh (Below.refl w.heap.size w)
 have hi1:decide ((200:Int)<(c.size:Int))=false:=by simp;omega
 have hl20:l.length≤100:=by have:=hs.1;omega
 have HZ:=lh hs.sz
 have HAN:=lh (fun W (hW:Below w.heap.size w W)=>ancT_some (h.below hW) hl20 hs.sz (hm.below hW) hn hf hi hpn)
 have HV1:=lh (fun W (hW:Below w.heap.size w W)=>viewT_any (name:=name) (h.below hW) hl20 hs.sz (hm.below hW) hn)
 have HV2:=lh (fun W (hW:Below w.heap.size w W)=>viewT_no (h.below hW) hl20 hs.sz (hm.below hW) hnp hf2 hi2 hv2)
 have HBT:=lh (fun W (hW:Below w.heap.size w W)=>betT_any (name:=name) (h.below hW) hl20 hs.sz (hm.below hW) hn)
 clear hv2
 clear h hr hm hs hf hi hpn hf2 hi2
 go_enter Tryz.func3,Tryz.ntmps3
 go_wp2_with (first
  | (go_at_call 5;refine (awake08_any _ (HM.out.below HBB.out)).mono ?_;rintro e w1 ⟨rfl,hb1⟩;replace HBB:=lh (go3 HBB.out hb1);clear hb1)
  | (go_at_call 6;refine (smallS_any A c0 l _ (HST.out.below HBB.out) HRD.out).mono ?_;rintro e w2 ⟨b,rfl,-,hb2⟩;replace HBB:=lh (go3 HBB.out hb2);clear hb2;cases b)
  | (go_at_call 7;refine (HAN.out _ HBB.out).mono ?_;rintro e w3 ⟨b,o,n,d,h0,hnd,hd9,rfl,hu,hb3⟩;replace HBB:=lh (go3 HBB.out hb3);have HU:At (fun W=>W.cell? ⟨b,o,none⟩=some (.string pn)∧b<W.heap.size) w3:=⟨fun X Y h hb=>⟨(hb.cell (p:=⟨b,o,none⟩) h.2).trans h.1,Nat.lt_of_lt_of_le h.2 hb.size⟩,hu⟩;have hn0:((n:Int)==0)=false:=(by simp;omega);clear hb3 hu)
  | (go_at_call_of 8 (Value.string name);refine (HV1.out _ HBB.out).mono ?_;rintro e w4 ⟨B4,n4,d4,k4,rfl,hb4⟩;replace HBB:=lh (go3 HBB.out hb4);replace HU:=HU.go2 bB hb4;obtain ⟨x0,xl⟩:=HU.out;clear hb4)|(go_at_call_of 8 (Value.string pn);refine (HV2.out _ HBB.out).mono ?_;rintro e w5 ⟨rfl,hb5⟩;replace HBB:=lh (go3 HBB.out hb5);clear hb5)|(go_at_call 9;refine (HBT.out _ HBB.out).mono ?_;rintro e w6 ⟨B6,n6,d6,k6,rfl,hb6⟩;replace HBB:=lh (go3 HBB.out hb6);have HFF:=lh (fine3_m (x:=k4) (y:=80) (z:=k6) (by decide));clear hb6)|(go_at_call 10;refine (fineT3 _ _ _ _ _ (BX.new _ [_,_,_] _ rfl)).mono ?_;rintro e wF ⟨rfl,hbF⟩;rw [HFF.out];replace HBB:=lh (go3 (go3 HBB.out (ba _ _)) hbF);clear hbF))
 all_goals go_ret
 all_goals exact ⟨rfl,HBB.out⟩
end Go.Proofs.YtelkmeiepliecaaGreatDoor
