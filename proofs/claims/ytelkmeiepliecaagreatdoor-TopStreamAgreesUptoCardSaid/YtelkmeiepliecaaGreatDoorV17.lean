/-
  Part 17 of the proof.
-/
import Derived.Test.YtelkmeiepliecaaGreatDoorV16
set_option linter.unusedSimpArgs false
set_option linter.unusedVariables false
set_option maxHeartbeats 16000000
namespace Go.Proofs.YtelkmeiepliecaaGreatDoor
open Pm
abbrev Pn:=List ByteArray×Bool
def mt (p:Pn) (s:ByteArray):Bool:=matchOk mpOk p.1 p.2 s
def okPn (p:Pn):Prop:=checkP p.1 p.2=0
def metO (p q:Pn):Bool:=meetOk p.1 q.1 p.2 q.2
def met (p q:Pn):Pn:=(meetL p.1 q.1,p.2&&q.2)
def insP (p q:Pn):Bool:=insideOk insB p.1 q.1 p.2 q.2
def txt (p:Pn):ByteArray:=textB p.1 p.2
theorem txt_inj {p q:Pn} (hp:okPn p) (hq:okPn q) (h:txt p=txt q):p=q:=by
 obtain ⟨_,a,b⟩:=parse_text hp
 obtain ⟨_,c,d⟩:=parse_text hq
 have h':textB p.1 p.2=textB q.1 q.2:=h
 rw [h',c] at a
 rw [h',d] at b
 exact Prod.ext a.symm b.symm
theorem met_ok {p q:Pn} (h:metO p q=true):okPn (met p q):=((meet_means p.1 q.1 p.2 q.2 ⟨#[]⟩).1 h).1
theorem met_mt {p q:Pn} (h:metO p q=true) (s:ByteArray):mt (met p q) s=(mt p s&&mt q s):=((meet_means p.1 q.1 p.2 q.2 s).1 h).2
theorem met_no {p q:Pn} (h:metO p q=false) (s:ByteArray):(mt p s&&mt q s)=false:=(meet_means p.1 q.1 p.2 q.2 s).2 h
theorem insP_iff {p q:Pn} (hp:okPn p) (hq:okPn q):insP p q=true↔∀ s,mt p s=true→mt q s=true:=by
 have e:withinOk insB p.1 q.1 p.2 q.2=insP p q:=by
  unfold withinOk insP
  rw [show checkP p.1 p.2=0 from hp,show checkP q.1 q.2=0 from hq]
  simp
 constructor
 ·intro h s hs
  exact within_means (e.trans h) hs
 ·intro h
  rw [←e]
  exact same_within hp hq h
theorem insP_self {p:Pn} (hp:okPn p):insP p p=true:=(insP_iff hp hp).2 fun _ h=>h
theorem insP_trans {p q o:Pn} (hp:okPn p) (hq:okPn q) (ho:okPn o) (h:insP p q=true) (k:insP q o=true):insP p o=true :=
 (insP_iff hp ho).2 fun s hs=>(insP_iff hq ho).1 k s ((insP_iff hp hq).1 h s hs)
theorem insP_anti {p q:Pn} (hp:okPn p) (hq:okPn q) (h:insP p q=true) (k:insP q p=true):p=q:=by
 obtain ⟨a,b⟩:=same_pat hp hq (fun s=>by
  rw [Bool.eq_iff_iff]
  exact ⟨(insP_iff hp hq).1 h s,(insP_iff hq hp).1 k s⟩)
 exact Prod.ext a b
def redM (b:Pn) (ps:List Pn):List Pn:=(ps.filter (metO b)).map (met b)
theorem redM_ok {b:Pn} {ps:List Pn}:∀ h∈redM b ps,okPn h:=fun h hh=>by
 obtain ⟨p,hp,rfl⟩:=List.mem_map.1 hh
 exact met_ok (List.mem_filter.1 hp).2
theorem redM_mt {b:Pn} {ps:List Pn} {s:ByteArray} (hb:mt b s=true):(redM b ps).any (mt · s)=ps.any (mt · s):=by
 rw [Bool.eq_iff_iff,List.any_eq_true,List.any_eq_true]
 constructor
 ·rintro ⟨h,hh,hs⟩
  obtain ⟨p,hp,rfl⟩:=List.mem_map.1 hh
  obtain ⟨hp,hm⟩:=List.mem_filter.1 hp
  rw [met_mt hm,Bool.and_eq_true] at hs
  exact ⟨p,hp,hs.2⟩
 ·rintro ⟨p,hp,hs⟩
  cases hm:metO b p with
  | true=>exact ⟨met b p,List.mem_map.2 ⟨p,List.mem_filter.2 ⟨hp,hm⟩,rfl⟩,by rw [met_mt hm,hb,hs];rfl⟩
  | false =>
   have:=met_no hm s
   rw [hb,hs] at this
   cases this
def topH (hs:List Pn):List Pn:=hs.filter fun h=>!hs.any fun o=>decide (txt o≠txt h)&&insP h o
theorem topH_mt {hs:List Pn} (hok:∀ h∈hs,okPn h) (s:ByteArray):(topH hs).any (mt · s)=hs.any (mt · s):=by
 rw [Bool.eq_iff_iff,List.any_eq_true,List.any_eq_true]
 constructor
 ·rintro ⟨h,hh,hm⟩
  exact ⟨h,(List.mem_filter.1 hh).1,hm⟩
 ·rintro ⟨h,hh,hm⟩
  have climb:∀ (n:Nat) (h:Pn),h∈hs→mt h s=true→(hs.filter fun o=>!insP o h).length≤n→∃ t∈topH hs,mt t s=true:=by
   intro n
   induction n with
   | zero =>
    intro h hh hm hn
    refine ⟨h,List.mem_filter.2 ⟨hh,?_⟩,hm⟩
    rw [Bool.not_eq_true',List.any_eq_false]
    rintro o ho hc
    rw [Bool.and_eq_true,decide_eq_true_eq] at hc
    have hnil:hs.filter (fun o=>!insP o h)=[]:=List.eq_nil_of_length_eq_zero (by omega)
    have hoh:insP o h=true:=by
     cases hq:insP o h with
     | true=>rfl
     | false =>
      have:o∈hs.filter (fun o=>!insP o h):=List.mem_filter.2 ⟨ho,by simp [hq]⟩
      rw [hnil] at this
      cases this
    exact hc.1 (by rw [insP_anti (hok o ho) (hok h hh) hoh hc.2])
   | succ n ih =>
    intro h hh hm hn
    by_cases hc:hs.any (fun o=>decide (txt o≠txt h)&&insP h o)=true
    ·obtain ⟨o,ho,hc⟩:=List.any_eq_true.1 hc
     rw [Bool.and_eq_true,decide_eq_true_eq] at hc
     refine ih o ho ((insP_iff (hok h hh) (hok o ho)).1 hc.2 s hm) ?_
     have hlt:(hs.filter fun x=>!insP x o).length<(hs.filter fun x=>!insP x h).length:=by
      have hsub:(hs.filter fun x=>!insP x o)=(hs.filter fun x=>!insP x h).filter fun x=>!insP x o:=by
       rw [List.filter_filter]
       refine List.filter_congr fun x hx=>?_
       cases hq:insP x o with
       | true=>rfl
       | false =>
        cases hr:insP x h with
        | true=>rw [insP_trans (hok x hx) (hok h hh) (hok o ho) hr hc.2] at hq;cases hq
        | false=>rfl
      rw [hsub]
      have hmo:o∈hs.filter fun x=>!insP x h:=List.mem_filter.2 ⟨ho,by
       cases hq:insP o h with
       | true=>exact absurd (by rw [insP_anti (hok o ho) (hok h hh) hq hc.2]) hc.1
       | false=>rfl⟩
      generalize hs.filter (fun x=>!insP x h)=L at hmo
      clear hsub hn ih
      induction L with
      | nil=>cases hmo
      | cons a L ih2 =>
       rw [List.filter_cons]
       rcases List.mem_cons.1 hmo with rfl|hmo
       ·rw [if_neg (by rw [insP_self (hok o ho)];decide)]
        exact Nat.lt_succ_of_le (List.length_filter_le _ _)
       ·have:=ih2 hmo
        split
        ·simp only [List.length_cons];omega
        ·simp only [List.length_cons];omega
     omega
    ·refine ⟨h,List.mem_filter.2 ⟨hh,?_⟩,hm⟩
     simp only [Bool.not_eq_true] at hc
     rw [hc]
     rfl
  exact climb _ h hh hm (Nat.le_refl _)
def reachB (p:Pn) (n:Nat):Bool:=(decide (n=p.1.length)&&!p.2) || (decide (p.1.length<n)&&p.2)
def partA (p:Pn) (i:Nat):ByteArray:=p.1[i]?.getD starT
def covB (h b:Pn) (fr n:Nat):Bool:=(List.range n).all fun i=>decide (i<fr) || decide (h.1.length≤i) || insB (partA b i) (h.1[i]?.getD starT)
def takenB (b:Pn) (hs:List Pn) (n:Nat):Bool:=hs.any fun h=>reachB h n&&covB h b 0 n
def lastN (b:Pn) (hs:List Pn):Nat:=if b.2=true then hs.foldl (fun m h=>max m (h.1.length+1)) (b.1.length+1) else b.1.length
def firstN (b:Pn):Nat:=if b.2=true then b.1.length+1 else b.1.length
def voidB (b:Pn) (hs:List Pn):Bool:=(List.range (lastN b hs+1)).all fun n=>decide (n<firstN b) || takenB b hs n
theorem fold_max (hs:List Pn):∀ m:Nat,m≤hs.foldl (fun m h=>max m (h.1.length+1)) m∧∀ h∈hs,h.1.length+1≤hs.foldl (fun m h=>max m (h.1.length+1)) m:=by
 induction hs with
 | nil=>exact fun m=>⟨Nat.le_refl _,fun h hh=>by cases hh⟩
 | cons a hs ih =>
  intro m
  obtain ⟨i1,i2⟩:=ih (max m (a.1.length+1))
  refine ⟨Nat.le_trans (Nat.le_max_left _ _) i1,fun h hh=>?_⟩
  rcases List.mem_cons.1 hh with rfl|hh
  ·exact Nat.le_trans (Nat.le_max_right _ _) i1
  ·exact i2 h hh
theorem mt_iff {p:Pn} {s:ByteArray}:mt p s=true↔pathOk s.data.toList=true∧okPn p∧(p.1.length≤(compsB s).length∧(p.2=true→p.1.length<(compsB s).length)∧(p.2=false→p.1.length=(compsB s).length))∧∀ (k:Nat) (x y:ByteArray),p.1[k]? = some x→(compsB s)[k]? = some y→mpOk x y=true:=by
 unfold mt matchOk okPn
 rw [Bool.and_eq_true,Bool.and_eq_true,Bool.and_eq_true,beq_iff_eq,lens_iff,ok_iff]
 constructor
 ·rintro ⟨⟨⟨a,b⟩,c⟩,d⟩;exact ⟨a,b,c,d⟩
 ·rintro ⟨a,b,c,d⟩;exact ⟨⟨⟨a,b⟩,c⟩,d⟩
theorem star_any {y:ByteArray} (h:comp y.data.toList=true):mpOk starT y=true:=by
 rw [mp_star starT_st]
 refine ⟨y.data.toList,?_,?_⟩
 ·intro e
  rw [e] at h
  simp [comp] at h
 ·rw [starT_tl];simp
theorem void_sound {b:Pn} {hs:List Pn} (hok:∀ h∈hs,okPn h) (hv:voidB b hs=true) {s:ByteArray} (hs1:mt b s=true):hs.any (mt · s)=true:=by
 obtain ⟨p1,p2,⟨p3,p4,p5⟩,p6⟩:=mt_iff.1 hs1
 have hcomp:∀ y∈compsB s,comp y.data.toList=true:=by
  have h1:=((pathOk_iff s).1 p1).1
  unfold dirOk at h1
  rw [Bool.and_eq_true,comps_all,List.all_eq_true] at h1
  exact h1.2
 have hbm:∀ (i:Nat) (y:ByteArray),(compsB s)[i]? = some y→mpOk (partA b i) y=true:=fun i y hy=>by
  unfold partA
  cases hx:b.1[i]? with
  | some x=>exact p6 i x y hx hy
  | none=>exact star_any (hcomp y (mG hy))
 generalize hm:(compsB s).length=m at p3 p4 p5
 have hlast:b.2=true→∀ h∈hs,h.1.length+1≤lastN b hs:=fun hb h hh=>by
  unfold lastN
  rw [if_pos hb]
  exact (fold_max hs _).2 h hh
 have hfl:firstN b≤lastN b hs:=by
  unfold firstN lastN
  split
  ·exact (fold_max hs _).1
  ·exact Nat.le_refl _
 have hfm:firstN b≤m:=by
  unfold firstN
  split
  ·rename_i hb;exact p4 hb
  ·exact p3
 have hn:=List.all_eq_true.1 hv (min m (lastN b hs)) (List.mem_range.2 (by omega))
 rw [Bool.or_eq_true,decide_eq_true_eq] at hn
 rcases hn with hn|hn
 ·omega
 ·obtain ⟨h,hh,hc⟩:=List.any_eq_true.1 hn
  rw [Bool.and_eq_true] at hc
  obtain ⟨hr,hcv⟩:=hc
  refine List.any_eq_true.2 ⟨h,hh,mt_iff.2 ⟨p1,hok h hh,?_,fun k x y hx hy=>?_⟩⟩
  ·unfold reachB at hr
   simp only [Bool.or_eq_true,Bool.and_eq_true,decide_eq_true_eq,Bool.not_eq_true'] at hr
   rw [hm]
   by_cases hb:b.2=true
   ·have hl:=hlast hb h hh
    rcases hr with ⟨r1,r2⟩|⟨r1,r2⟩
    ·refine ⟨by omega,(fun e=>by rw [r2] at e;cases e),fun _=>by omega⟩
    ·exact ⟨by omega,(fun _=>by omega),fun e=>by rw [r2] at e;cases e⟩
   ·have hb':b.2=false:=by simpa using hb
    have hml:=p5 hb'
    have hln:lastN b hs=b.1.length:=by unfold lastN;rw [if_neg hb]
    rw [hln,← hml,Nat.min_self] at hr
    rcases hr with ⟨r1,r2⟩|⟨r1,r2⟩
    ·refine ⟨by omega,(fun e=>by rw [r2] at e;cases e),fun _=>by omega⟩
    ·exact ⟨by omega,(fun _=>by omega),fun e=>by rw [r2] at e;cases e⟩
  ·have hk:k<h.1.length:=(sI.1 hx).1
   have hkm:k<m:=by rw [←hm];exact (sI.1 hy).1
   have hkn:k<min m (lastN b hs):=by
    unfold reachB at hr
    simp only [Bool.or_eq_true,Bool.and_eq_true,decide_eq_true_eq,Bool.not_eq_true'] at hr
    rcases hr with ⟨r1,_⟩|⟨r1,_⟩<;>omega
   have:=List.all_eq_true.1 hcv k (List.mem_range.2 hkn)
   simp only [Bool.or_eq_true,decide_eq_true_eq] at this
   rcases this with (h0|h0)|h0
   ·omega
   ·omega
   ·rw [hx] at h0
    exact ins_mp h0 (hbm k y hy)
end Go.Proofs.YtelkmeiepliecaaGreatDoor
