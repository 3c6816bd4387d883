/-
  Part 7 of the proof.
-/
import Derived.Test.YtelkmeiepliecaaGreatDoorV06
set_option linter.unusedSimpArgs false
set_option linter.unusedVariables false
set_option maxHeartbeats 16000000
namespace Go.Proofs.YtelkmeiepliecaaGreatDoor
open Go.RowKit
open Pm
theorem trim_app (a b:List UInt8):Lib.hasSuffix (a++b) b=true∧Lib.trimSuffix (a++b) b=a:=by
 have h:Lib.hasSuffix (a++b) b=true:=by
  unfold Lib.hasSuffix
  rw [List.isSuffixOf_iff_suffix]
  exact ⟨a,rfl⟩
 refine ⟨h,?_⟩
 unfold Lib.trimSuffix
 rw [if_pos h]
 simp
theorem app_trim {x p:List UInt8} (h:Lib.hasSuffix x p=true):Lib.trimSuffix x p++p=x:=by
 have k:=h
 unfold Lib.hasSuffix at k
 rw [List.isSuffixOf_iff_suffix] at k
 obtain ⟨a,rfl⟩:=k
 rw [(trim_app a p).2]
theorem app_data (a b:ByteArray):(a++b).data.toList=a.data.toList++b.data.toList:=by rw [ByteArray.data_append,Array.toList_append]
theorem mkB_app (l:List UInt8) (b:ByteArray):mkB l++b=mkB (l++b.data.toList):=by
 rw [←mkB_back (mkB l++b),app_data,mkB_data]
theorem part_cap {p x:ByteArray} (hx:comp x.data.toList=true) (hs:stB p=true) (ho:mpOk p x=true):comp (mpCap p x).data.toList=true∧mpCap p x++tlB p=x:=by
 unfold mpOk at ho
 rw [if_pos hs,Bool.and_eq_true] at ho
 have hc:mpCap p x=mkB (Lib.trimSuffix x.data.toList (tlB p).data.toList):=by unfold mpCap;rw [if_pos hs]
 rw [hc]
 refine ⟨?_,?_⟩
 ·rw [mkB_data]
  have hsf:=ho.1
  have hne:=ho.2
  unfold Lib.trimSuffix at hne ⊢
  rw [if_pos hsf] at hne ⊢
  rw [comp_prefix hx]
  exact hne
 ·rw [mkB_app,app_trim ho.1,mkB_back]
theorem part_lit {p x:ByteArray} (hs:stB p=false) (ho:mpOk p x=true):p=x:=by
 unfold mpOk at ho
 rw [if_neg (by rw [hs];decide)] at ho
 exact of_decide_eq_true ho
theorem fill_of_match:∀ (xs ys:List ByteArray),xs.length≤ys.length→okOf mpOk (xs.zip ys)=true→(∀ y∈ys,comp y.data.toList=true)→∀ tail,
 flC stB tlB xs (capsOf stB mpCap (xs.zip ys)++tail)=ys.take xs.length∧flOk stB xs (capsOf stB mpCap (xs.zip ys)++tail)=true∧(capsOf stB mpCap (xs.zip ys)).length=countB stB xs
 | [],ys,_,_,_,tail=>⟨rfl,rfl,rfl⟩
 | x::xs,[],h,_,_,_=>by simp at h
 | x::xs,y::ys,h,ho,hc,tail=>by
  have hz:(x::xs).zip (y::ys)=(x,y)::xs.zip ys:=rfl
  rw [hz] at ho ⊢
  have ho2:mpOk x y=true∧okOf mpOk (xs.zip ys)=true:=by
   unfold okOf at ho
   rw [List.all_cons,Bool.and_eq_true] at ho
   exact ho
  have ih:=fill_of_match xs ys (by simpa using h) ho2.2 (fun z hz=>hc z (by simp [hz])) tail
  have hy:=hc y (by simp)
  cases hs:stB x with
  | true =>
   have hcap:capsOf stB mpCap ((x,y)::xs.zip ys)=mpCap x y::capsOf stB mpCap (xs.zip ys):=by
    unfold capsOf
    rw [List.filter_cons_of_pos (by exact hs),List.map_cons]
   obtain ⟨k1,k2⟩:=part_cap hy hs ho2.1
   rw [hcap,List.cons_append]
   refine ⟨?_,?_,?_⟩
   ·unfold flC
    rw [if_pos hs]
    simp only [List.headD_cons,List.tail_cons,List.length_cons,List.take_succ_cons]
    rw [k2,ih.1]
   ·unfold flOk
    rw [if_pos hs]
    simp only [List.headD_cons,List.tail_cons]
    rw [k1,ih.2.1]
    rfl
   ·rw [List.length_cons,ih.2.2,count_cons,if_pos hs]
    omega
  | false =>
   have hcap:capsOf stB mpCap ((x,y)::xs.zip ys)=capsOf stB mpCap (xs.zip ys):=by
    unfold capsOf
    rw [List.filter_cons_of_neg (by show ¬ stB x=true;rw [hs];decide)]
   have k:=part_lit hs ho2.1
   rw [hcap]
   refine ⟨?_,?_,?_⟩
   ·unfold flC
    rw [if_neg (by rw [hs];decide),ih.1,k]
    rfl
   ·unfold flOk
    rw [if_neg (by rw [hs];decide)]
    exact ih.2.1
   ·rw [ih.2.2,count_cons,if_neg (by rw [hs];decide),Nat.zero_add]
theorem star_tail {x:ByteArray} (hx:partB x=true) (hs:stB x=true):(tlB x).data.toList.all isB=true:=by
 have h:=star_agree hx
 rw [hs] at h
 unfold starOk at h
 rw [Bool.and_eq_true] at h
 rw [tlB_data]
 exact h.2
theorem part_name {x:ByteArray} (hx:partB x=true) (hs:stB x=false):comp x.data.toList=true:=by
 have h:=star_agree hx
 unfold partB at hx
 rw [h,hs,Bool.false_or] at hx
 exact hx
theorem comp_app {a b:List UInt8} (h:comp a=true) (k:b.all isB=true):comp (a++b)=true:=by
 cases a with
 | nil=>cases h
 | cons c a =>
  unfold comp at h ⊢
  rw [Bool.and_eq_true] at h
  rw [List.cons_append]
  simp only [Bool.and_eq_true]
  refine ⟨h.1,?_⟩
  have:=h.2
  rw [←List.cons_append,List.all_append,this,k]
  rfl
theorem comp_ne_nil {a:List UInt8} (h:comp a=true):a.isEmpty=false:=by
 cases a with
 | nil=>cases h
 | cons c a=>rfl
theorem match_of_fill:∀ (xs cs L:List ByteArray),(∀ x∈xs,partB x=true)→flOk stB xs cs=true→countB stB xs≤cs.length →
 okOf mpOk (xs.zip (flC stB tlB xs cs++L))=true∧capsOf stB mpCap (xs.zip (flC stB tlB xs cs++L))=cs.take (countB stB xs)∧∀ y∈flC stB tlB xs cs,comp y.data.toList=true
 | [],cs,L,_,_,_=>⟨rfl,by simp [capsOf,countB],fun y hy=>by cases hy⟩
 | x::xs,cs,L,hp,ho,hl=>by
  have hpx:=hp x (by simp)
  have hpr:∀ z∈xs,partB z=true:=fun z hz=>hp z (by simp [hz])
  cases hs:stB x with
  | true =>
   rw [count_cons,if_pos hs] at hl
   cases cs with
   | nil=>simp at hl<;>omega
   | cons y cs =>
    unfold flOk at ho
    rw [if_pos hs] at ho
    simp only [List.headD_cons,List.tail_cons,Bool.and_eq_true] at ho
    have ih:=match_of_fill xs cs L hpr ho.2 (by simp at hl;omega)
    have e:flC stB tlB (x::xs) (y::cs)=(y++tlB x)::flC stB tlB xs cs:=by
     conv=>lhs;unfold flC
     rw [if_pos hs]
     rfl
    have ht:=trim_app y.data.toList (tlB x).data.toList
    have hm:mpOk x (y++tlB x)=true:=by
     unfold mpOk
     rw [if_pos hs,app_data,ht.1,ht.2,comp_ne_nil ho.1]
     rfl
    have hc:mpCap x (y++tlB x)=y:=by
     unfold mpCap
     rw [if_pos hs,app_data,ht.2,mkB_back]
    have hz:(x::xs).zip ((y++tlB x)::flC stB tlB xs cs++L)=(x,y++tlB x)::xs.zip (flC stB tlB xs cs++L):=rfl
    rw [e,hz,count_cons,if_pos hs]
    refine ⟨?_,?_,?_⟩
    ·unfold okOf
     rw [List.all_cons]
     rw [Bool.and_eq_true]
     exact ⟨hm,ih.1⟩
    ·have hcap:capsOf stB mpCap ((x,y++tlB x)::xs.zip (flC stB tlB xs cs++L))=mpCap x (y++tlB x)::capsOf stB mpCap (xs.zip (flC stB tlB xs cs++L)):=by
      unfold capsOf
      rw [List.filter_cons_of_pos (by exact hs),List.map_cons]
     rw [hcap,hc,ih.2.1,Nat.add_comm 1 (countB stB xs),List.take_succ_cons]
    ·intro z hz
     rcases List.mem_cons.1 hz with rfl|hz
     ·rw [app_data]
      exact comp_app ho.1 (star_tail hpx hs)
     ·exact ih.2.2 z hz
  | false =>
   rw [count_cons,if_neg (by rw [hs];decide),Nat.zero_add] at hl
   unfold flOk at ho
   rw [if_neg (by rw [hs];decide)] at ho
   have ih:=match_of_fill xs cs L hpr ho hl
   have e:flC stB tlB (x::xs) cs=x::flC stB tlB xs cs:=by
    conv=>lhs;unfold flC
    rw [if_neg (by rw [hs];decide)]
   have hm:mpOk x x=true:=by
    unfold mpOk
    rw [if_neg (by rw [hs];decide)]
    simp
   have hz:(x::xs).zip (x::flC stB tlB xs cs++L)=(x,x)::xs.zip (flC stB tlB xs cs++L):=rfl
   rw [e,hz,count_cons,if_neg (by rw [hs];decide),Nat.zero_add]
   refine ⟨?_,?_,?_⟩
   ·unfold okOf
    rw [List.all_cons,Bool.and_eq_true]
    exact ⟨hm,ih.1⟩
   ·have hcap:capsOf stB mpCap ((x,x)::xs.zip (flC stB tlB xs cs++L))=capsOf stB mpCap (xs.zip (flC stB tlB xs cs++L)):=by
     unfold capsOf
     rw [List.filter_cons_of_neg (by show ¬ stB x=true;rw [hs];decide)]
    rw [hcap,ih.2.1]
   ·intro z hz
    rcases List.mem_cons.1 hz with rfl|hz
    ·exact part_name hpx hs
    ·exact ih.2.2 z hz
theorem spB_join {L:List ByteArray} (h0:L≠[]) (h:∀ y∈L,comp y.data.toList=true):spB (Lib.join (datj L) [47])=L:=by
 unfold spB
 rw [sp_join (datj L) (by intro e;exact h0 (List.map_eq_nil_iff.1 e)) (fun l hl=>by
  obtain ⟨y,hy,rfl⟩:=List.mem_map.1 hl
  exact comp_no_slash (h y hy))]
 unfold datj
 rw [List.map_map]
 conv=>rhs;rw [←List.map_id L]
 exact List.map_congr_left fun x _=>mkB_back x
theorem joinB_comps {L:List ByteArray} (h0:L≠[]) (h:∀ y∈L,comp y.data.toList=true):compsB (joinB L)=L:=by
 unfold compsB joinB joinL
 rw [mkB_data]
 exact spB_join h0 h
theorem joinB_path {L:List ByteArray} (h2:2≤L.length) (h:∀ y∈L,comp y.data.toList=true):pathOk (joinB L).data.toList=true:=by
 have h0:L≠[]:=by intro e;rw [e] at h2;simp at h2
 rw [pathOk_iff,joinB_comps h0 h]
 refine ⟨?_,h2⟩
 unfold dirOk
 rw [comps_all,joinB_comps h0 h,Bool.and_eq_true,List.all_eq_true]
 refine ⟨?_,h⟩
 unfold joinB joinL
 rw [mkB_data]
 rfl
theorem comps_joinB {s:ByteArray} (h:pathOk s.data.toList=true):joinB (compsB s)=s∧∀ y∈compsB s,comp y.data.toList=true:=by
 have h1:=((pathOk_iff s).1 h).1
 unfold dirOk at h1
 rw [comps_all,Bool.and_eq_true,List.all_eq_true] at h1
 refine ⟨?_,h1.2⟩
 unfold joinB joinL compsB spB datj
 rw [List.map_map]
 have e:((fun x:ByteArray=>x.data.toList) ∘ mkB)=id:=by funext l;exact mkB_data l
 rw [e,List.map_id,join_sp]
 have hp:=h1.1
 unfold Lib.hasPrefix at hp
 obtain ⟨t,ht⟩:=List.isPrefixOf_iff_prefix.1 hp
 conv=>rhs;rw [←mkB_back s,← ht]
 rw [←ht]
 rfl
theorem lens_in {n m:Nat} {r:Bool} (h:n≤m) (h1:r=true→n<m) (h2:r=false→n=m):lensOk n m r=true:=by
 unfold lensOk
 rw [Bool.and_eq_true,Bool.not_eq_true',decide_eq_false_iff_not,beq_iff_eq]
 refine ⟨by omega,?_⟩
 cases r with
 | true=>exact decide_eq_true (h1 rfl)
 | false=>exact decide_eq_false (by have:=h2 rfl;omega)
theorem match_fills {xs:List ByteArray} {r:Bool} {s:ByteArray} (h:matchOk mpOk xs r s=true):fillE xs r (capsB stB mpCap xs r s)=0∧fillT xs r (capsB stB mpCap xs r s)=s:=by
 unfold matchOk at h
 rw [Bool.and_eq_true,Bool.and_eq_true,Bool.and_eq_true,beq_iff_eq] at h
 obtain ⟨⟨⟨hp,hc⟩,hl⟩,ho⟩:=h
 obtain ⟨l1,l2,l3⟩:=lens_lo hl
 obtain ⟨e1,e2⟩:=comps_joinB hp
 obtain ⟨f1,f2,f3⟩:=fill_of_match xs (compsB s) l1 ho e2 (restL xs r s)
 have hcb:capsB stB mpCap xs r s=capsOf stB mpCap (xs.zip (compsB s))++restL xs r s:=rfl
 have hlast:lastC stB xs (capsB stB mpCap xs r s)=(restL xs r s).headD ⟨#[]⟩:=by
  unfold lastC
  rw [hcb,← f3,List.drop_left']
  rfl
 have hdr:r=true→(compsB s).drop xs.length≠[]:=fun e=>by
  intro k
  have:=l2 e
  have:=congrArg List.length k
  rw [List.length_drop] at this
  simp at this
  omega
 have hrs:r=true→spB (lastC stB xs (capsB stB mpCap xs r s)).data.toList=(compsB s).drop xs.length:=fun e=>by
  rw [hlast]
  unfold restL
  rw [if_pos e]
  show spB (joinT _).data.toList=_
  unfold joinT
  rw [mkB_data]
  exact spB_join (hdr e) (fun y hy=>e2 y (List.mem_of_mem_drop hy))
 have hok:fillOk stB xs r (capsB stB mpCap xs r s)=true:=by
  refine fill_good ?_ (by rw [hcb];exact f2) (fun e=>?_)
  ·rw [hcb,List.length_append,f3]
   unfold wildB restL
   cases r<;>simp
  ·rw [hrs e,List.all_eq_true]
   exact fun y hy=>e2 y (List.mem_of_mem_drop hy)
 obtain ⟨k1,k2⟩:=fill_e2 hc hok
 refine ⟨k1,?_⟩
 rw [k2]
 unfold fillL
 rw [hcb,f1,← hcb]
 cases r with
 | true =>
  rw [if_pos rfl,← joinB_rest,hrs rfl,List.take_append_drop,e1]
 | false =>
  rw [if_neg (by decide),List.append_nil,List.take_of_length_le (by have:=l3 rfl;omega),e1]
theorem fills_match {xs:List ByteArray} {r:Bool} {cs:List ByteArray} (h:fillE xs r cs=0):matchOk mpOk xs r (fillT xs r cs)=true∧capsB stB mpCap xs r (fillT xs r cs)=cs:=by
 have hc:checkP xs r=0:=by
  apply Classical.byContradiction
  intro k
  rw [(fill_e0 k).1] at h
  exact k h
 have hok:fillOk stB xs r cs=true:=by
  cases hk:fillOk stB xs r cs with
  | true=>rfl
  | false=>rw [(fill_e1 hc hk).1] at h;cases h
 rw [(fill_e2 hc hok).2]
 have hpa:=parts_all (check_zero hc).2.2
 have hpos:=(check_zero hc).1
 unfold fillOk at hok
 rw [Bool.and_eq_true,Bool.and_eq_true,decide_eq_true_iff] at hok
 obtain ⟨hl,hf,hr⟩:=hok
 unfold wildB at hl
 have hcl:countB stB xs≤cs.length:=by omega
 cases r with
 | false =>
  rw [if_neg (by decide)] at hl
  obtain ⟨m1,m2,m3⟩:=match_of_fill xs cs [] hpa hf hcl
  rw [List.append_nil] at m1 m2
  have hL:fillL stB tlB xs false cs=flC stB tlB xs cs:=by unfold fillL;simp
  rw [hL]
  have hx2:2≤xs.length:=by
   apply Classical.byContradiction
   intro k
   have:checkP xs false=30:=check_short (.inr ⟨by omega,rfl⟩)
   rw [hc] at this
   cases this
  have hne:flC stB tlB xs cs≠[]:=by
   intro e
   have:=flC_len stB tlB xs cs
   rw [e] at this
   simp at this
   omega
  have hcm:=joinB_comps hne m3
  have hpt:=joinB_path (by rw [flC_len];exact hx2) m3
  refine ⟨?_,?_⟩
  ·unfold matchOk
   rw [hpt,hc,hcm,m1,lens_in (by rw [flC_len];omega) (fun e=>by cases e) (fun _=>(flC_len _ _ _ _).symm)]
   rfl
  ·unfold capsB restL
   rw [hcm,m2,if_neg (by decide),List.append_nil,List.take_of_length_le (by omega)]
 | true =>
  rw [if_pos rfl] at hl
  have hlc:∃ y,cs.drop (countB stB xs)=[y]∧lastC stB xs cs=y:=by
   have hd:(cs.drop (countB stB xs)).length=1:=by rw [List.length_drop];omega
   unfold lastC
   match cs.drop (countB stB xs),hd with
   | [y],_=>exact ⟨y,rfl,rfl⟩
  obtain ⟨y,hd,hy⟩:=hlc
  rw [hy] at hr
  have hr2:(spB y.data.toList).all (fun x=>comp x.data.toList)=true:=by simpa using hr
  obtain ⟨m1,m2,m3⟩:=match_of_fill xs cs (spB y.data.toList) hpa hf hcl
  have hL:joinB (fillL stB tlB xs true cs)=joinB (flC stB tlB xs cs++spB y.data.toList):=by
   unfold fillL
   rw [if_pos rfl,hy,joinB_rest]
  rw [hL]
  have hsp:=spB_pos y.data.toList
  have hall:∀ z∈flC stB tlB xs cs++spB y.data.toList,comp z.data.toList=true:=fun z hz=>by
   rcases List.mem_append.1 hz with hz|hz
   ·exact m3 z hz
   ·exact List.all_eq_true.1 hr2 z hz
  have hlen:(flC stB tlB xs cs++spB y.data.toList).length=xs.length+(spB y.data.toList).length:=by rw [List.length_append,flC_len]
  have hne:flC stB tlB xs cs++spB y.data.toList≠[]:=by
   intro e
   rw [e] at hlen
   simp at hlen
   omega
  have hcm:=joinB_comps hne hall
  have hpt:=joinB_path (by rw [hlen];omega) hall
  refine ⟨?_,?_⟩
  ·unfold matchOk
   rw [hpt,hc,hcm,m1,lens_in (by rw [hlen];omega) (fun _=>by rw [hlen];omega) (fun e=>by cases e)]
   rfl
  ·unfold capsB restL
   rw [hcm,m2,if_pos rfl]
   have e1:(flC stB tlB xs cs++spB y.data.toList).drop xs.length=spB y.data.toList:=by
    rw [←flC_len stB tlB xs cs,List.drop_left']
    rfl
   have e2:joinT (spB y.data.toList)=y:=by
    unfold joinT datj spB
    rw [List.map_map]
    have:((fun x:ByteArray=>x.data.toList) ∘ mkB)=id:=by funext l;exact mkB_data l
    rw [this,List.map_id,join_sp,mkB_back]
   rw [e1,e2,← hd,List.take_append_drop]
theorem join_drop_len:∀ (l:List (List UInt8)) (k:Nat),(Lib.join (l.drop k) [47]).length≤(Lib.join l [47]).length
 | l,0=>Nat.le_refl _
 | [],k+1=>by simp [Lib.join_nil]
 | x::l,k+1=>by
  have ih:=join_drop_len l k
  rw [List.drop_succ_cons]
  refine Nat.le_trans ih ?_
  rw [Lib.join_cons,List.length_append]
  cases l with
  | nil=>simp [Lib.join_nil]
  | cons y l =>
   rw [Lib.join_cons]
   have e:Lib.joinTail [47] (y::l)=47::(y++Lib.joinTail [47] l):=by simp [Lib.joinTail]
   rw [e,List.length_cons]
   omega
theorem caps_size {xs:List ByteArray} {r:Bool} {s:ByteArray}:∀ y∈capsB stB mpCap xs r s,y.size≤s.size:=by
 intro y hy
 unfold capsB at hy
 rcases List.mem_append.1 hy with hy|hy
 ·unfold capsOf at hy
  obtain ⟨z,hz,rfl⟩:=List.mem_map.1 hy
  have hz2:=List.of_mem_zip (show (z.1,z.2)∈xs.zip (compsB s) from (List.mem_filter.1 hz).1)
  have hz3:=compsB_size s _ hz2.2
  unfold mpCap
  split
  ·rw [mkB_size]
   have:=Lib.trimSuffix_le z.2.data.toList (tlB z.1).data.toList
   rw [Lib.size_eq] at hz3
   omega
  ·show 0≤_
   omega
 ·unfold restL at hy
  split at hy
  ·obtain rfl:=List.mem_singleton.1 hy
   rw [joinT_size]
   unfold datj
   rw [List.map_drop]
   refine Nat.le_trans (join_drop_len _ _) ?_
   unfold compsB spB
   rw [List.map_map]
   have e:((fun x:ByteArray=>x.data.toList) ∘ mkB)=id:=by funext l;exact mkB_data l
   rw [e,List.map_id,join_sp,List.length_drop,Lib.size_eq]
   omega
  ·cases hy
open Go.RowKit
open Pm
theorem suf_iff {l p:List UInt8}:Lib.hasSuffix l p=true↔p <:+ l:=by
 unfold Lib.hasSuffix
 rw [List.isSuffixOf_iff_suffix]
theorem trim_of {a p:List UInt8}:Lib.trimSuffix (a++p) p=a:=(trim_app a p).2
theorem mp_star {p y:ByteArray} (hs:stB p=true):mpOk p y=true↔∃ a,a≠[]∧y.data.toList=a++(tlB p).data.toList:=by
 unfold mpOk
 rw [if_pos hs,Bool.and_eq_true,suf_iff]
 constructor
 ·rintro ⟨⟨a,ha⟩,h2⟩
  rw [←ha,trim_of] at h2
  refine ⟨a,?_,ha.symm⟩
  rintro rfl
  cases h2
 ·rintro ⟨a,ha,e⟩
  rw [e,trim_of]
  refine ⟨⟨a,rfl⟩,?_⟩
  cases a with
  | nil=>exact absurd rfl ha
  | cons c a=>rfl
theorem mp_lit {p y:ByteArray} (hs:stB p=false):mpOk p y=true↔p=y:=by
 unfold mpOk
 rw [if_neg (by rw [hs];decide),decide_eq_true_iff]
theorem ins_mp {a b y:ByteArray} (h:insB a b=true) (k:mpOk a y=true):mpOk b y=true:=by
 unfold insB at h
 by_cases he:a=b
 ·rw [←he];exact k
 rw [if_neg he] at h
 cases hb:stB b with
 | false=>rw [hb,if_pos rfl] at h;cases h
 | true =>
  rw [hb,if_neg (by decide)] at h
  cases ha:stB a with
  | true =>
   rw [ha,if_pos rfl,suf_iff] at h
   obtain ⟨c,hc⟩:=h
   obtain ⟨d,hd,e⟩:=(mp_star ha).1 k
   rw [mp_star hb]
   refine ⟨d++c,?_,?_⟩
   ·intro e2
    exact hd (List.append_eq_nil_iff.1 e2).1
   ·rw [e,← hc,List.append_assoc]
  | false =>
   rw [ha,if_neg (by decide)] at h
   rw [←(mp_lit ha).1 k]
   exact h
theorem mp_nrw {a b y:ByteArray} (h:mpOk a y=true) (k:mpOk b y=true):nrwOk a b=true:=by
 unfold nrwOk
 cases ha:stB a with
 | false =>
  have e:=(mp_lit ha).1 h
  subst e
  cases hb:stB b with
  | false =>
   have e:=(mp_lit hb).1 k
   subst e
   unfold insB
   rw [if_pos rfl]
   rfl
  | true =>
   have:insB a b=true:=by
    unfold insB
    by_cases he:a=b
    ·rw [if_pos he]
    ·rw [if_neg he,hb,if_neg (by decide),ha,if_neg (by decide)]
     exact k
   rw [this]
   rfl
 | true =>
  cases hb:stB b with
  | false =>
   have e:=(mp_lit hb).1 k
   subst e
   have:insB b a=true:=by
    unfold insB
    by_cases he:b=a
    ·rw [if_pos he]
    ·rw [if_neg he,ha,if_neg (by decide),hb,if_neg (by decide)]
     exact h
   rw [this,Bool.or_true]
  | true =>
   obtain ⟨c,_,e1⟩:=(mp_star ha).1 h
   obtain ⟨d,_,e2⟩:=(mp_star hb).1 k
   have s1:(tlB a).data.toList <:+ y.data.toList:=⟨c,e1.symm⟩
   have s2:(tlB b).data.toList <:+ y.data.toList:=⟨d,e2.symm⟩
   rcases Nat.le_total (tlB a).data.toList.length (tlB b).data.toList.length with hl|hl
   ·have:=List.suffix_of_suffix_length_le s1 s2 hl
    have hi:insB b a=true:=by
     unfold insB
     by_cases he:b=a
     ·rw [if_pos he]
     ·rw [if_neg he,ha,if_neg (by decide),hb,if_pos rfl,suf_iff]
      exact this
    rw [hi,Bool.or_true]
   ·have:=List.suffix_of_suffix_length_le s2 s1 hl
    have hi:insB a b=true:=by
     unfold insB
     by_cases he:a=b
     ·rw [if_pos he]
     ·rw [if_neg he,hb,if_neg (by decide),ha,if_pos rfl,suf_iff]
      exact this
    rw [hi]
    rfl
theorem nrw_mp {a b y:ByteArray} (h:nrwOk a b=true):mpOk (nrw a b) y=(mpOk a y&&mpOk b y):=by
 unfold nrwOk at h
 unfold nrw
 cases h1:insB a b with
 | true =>
  rw [if_pos rfl,Bool.eq_iff_iff,Bool.and_eq_true]
  exact ⟨fun k=>⟨k,ins_mp h1 k⟩,fun k=>k.1⟩
 | false =>
  rw [h1,Bool.false_or] at h
  rw [if_neg (by decide),if_pos h,Bool.eq_iff_iff,Bool.and_eq_true]
  exact ⟨fun k=>⟨ins_mp h k,k⟩,fun k=>k.2⟩
theorem nrw_one {a b:ByteArray} (h:nrwOk a b=true):nrw a b=a∨nrw a b=b:=by
 unfold nrwOk at h
 unfold nrw
 cases h1:insB a b with
 | true=>exact .inl (if_pos rfl)
 | false =>
  rw [h1,Bool.false_or] at h
  rw [if_neg (by decide),if_pos h]
  exact .inr rfl
theorem ok_iff {g:ByteArray→ByteArray→Bool} {xs ys:List ByteArray}:okOf g (xs.zip ys)=true↔∀ (k:Nat) (x y:ByteArray),xs[k]? = some x→ys[k]? = some y→g x y=true:=by
 unfold okOf
 rw [List.all_eq_true]
 constructor
 ·intro h k x y hx hy
  exact h (x,y) (mG (zip_get hx hy))
 ·intro h z hz
  obtain ⟨k,hk⟩:=List.getElem?_of_mem hz
  have:=List.getElem?_zip_eq_some.1 (show (xs.zip ys)[k]? = some (z.1,z.2) from hk)
  exact h k z.1 z.2 this.1 this.2
theorem mzAll_get {us vs:List ByteArray} {k:Nat} {x:ByteArray} (hl:vs.length≤us.length) (hx:us[k]? = some x) :
 (mzAll us vs)[k]? = some (match vs[k]? with|some y=>nrw x y|none=>x):=by
 cases hy:vs[k]? with
 | some y =>
  have hz:=zip_get hx hy
  unfold mzAll
  rw [List.getElem?_append_left (by rw [List.length_map];exact (sI.1 hz).1),List.getElem?_map,hz]
  rfl
 | none =>
  have hk:vs.length≤k:=by
   rcases Nat.lt_or_ge k vs.length with h|h
   ·rw [gE h] at hy;cases hy
   ·exact h
  have hlen:((us.zip vs).map (fun p=>nrw p.1 p.2)).length=vs.length:=by rw [List.length_map,List.length_zip];omega
  unfold mzAll
  rw [List.getElem?_append_right (by omega),hlen,List.getElem?_drop,show vs.length+(k-vs.length)=k by omega]
  exact hx
theorem mzAll_back {us vs:List ByteArray} {k:Nat} {z:ByteArray} (hl:vs.length≤us.length) (hz:(mzAll us vs)[k]? = some z) :
 ∃ x,us[k]? = some x∧z=(match vs[k]? with|some y=>nrw x y|none=>x):=by
 have hk:k<us.length:=by
  rw [←mzAll_len hl]
  exact (sI.1 hz).1
 obtain ⟨x,hx⟩:∃ x,us[k]? = some x:=⟨_,gE hk⟩
 refine ⟨x,hx,?_⟩
 rw [mzAll_get hl hx] at hz
 exact (Option.some.inj hz).symm
theorem mz_ok {us vs cs:List ByteArray} (hl:vs.length≤us.length) (h:okOf nrwOk (us.zip vs)=true) (hc:us.length≤cs.length) :
 okOf mpOk ((mzAll us vs).zip cs)=(okOf mpOk (us.zip cs)&&okOf mpOk (vs.zip cs)):=by
 rw [ok_iff] at h
 rw [Bool.eq_iff_iff,Bool.and_eq_true,ok_iff,ok_iff,ok_iff]
 constructor
 ·intro k
  refine ⟨fun i x y hx hy=>?_,fun i x y hx hy=>?_⟩
  ·have hz:=mzAll_get hl hx
   have:=k i _ y hz hy
   cases hv:vs[i]? with
   | none=>rw [hv] at this;exact this
   | some v =>
    rw [hv] at this
    have this2:mpOk (nrw x v) y=true:=this
    rw [nrw_mp (h i x v hx hv),Bool.and_eq_true] at this2
    exact this2.1
  ·have hi:i<vs.length:=(sI.1 hx).1
   obtain ⟨u,hu⟩:∃ u,us[i]? = some u:=⟨_,gE (by omega)⟩
   have hz:=mzAll_get hl hu
   have:=k i _ y hz hy
   rw [hx] at this
   have this2:mpOk (nrw u x) y=true:=this
   rw [nrw_mp (h i u x hu hx),Bool.and_eq_true] at this2
   exact this2.2
 ·rintro ⟨k1,k2⟩ i z y hz hy
  obtain ⟨x,hx,e⟩:=mzAll_back hl hz
  subst e
  cases hv:vs[i]? with
  | none=>exact k1 i x y hx hy
  | some v =>
   show mpOk (nrw x v) y=true
   rw [nrw_mp (h i x v hx hv),k1 i x y hx hy,k2 i v y hv hy]
   rfl
theorem mz_nest {us vs cs:List ByteArray} (hc:us.length≤cs.length) (h1:okOf mpOk (us.zip cs)=true) (h2:okOf mpOk (vs.zip cs)=true):okOf nrwOk (us.zip vs)=true:=by
 rw [ok_iff] at h1 h2 ⊢
 intro i x v hx hv
 have hi:i<us.length:=(sI.1 hx).1
 obtain ⟨y,hy⟩:∃ y,cs[i]? = some y:=⟨_,gE (by omega)⟩
 exact mp_nrw (h1 i x y hx hy) (h2 i v y hv hy)
theorem lens_iff {n m:Nat} {r:Bool}:lensOk n m r=true↔n≤m∧(r=true→n<m)∧(r=false→n=m):=⟨lens_lo,fun h=>lens_in h.1 h.2.1 h.2.2⟩
theorem parts_ok_of {xs:List ByteArray} (h0:0<xs.length) (h:∀ k x,xs[k]? = some x→partB x=true∧(k=0→comp x.data.toList=true)):partsOk xs=true:=by
 refine PO.full (k:=xs.length) ?_ (Nat.le_refl _) h0
 exact fun j x _ hx=>h j x hx
theorem parts_get {xs:List ByteArray} (h:partsOk xs=true) {k:Nat} {x:ByteArray} (hx:xs[k]? = some x):partB x=true∧(k=0→comp x.data.toList=true):=by
 refine ⟨parts_all h x (mG hx),fun e=>?_⟩
 subst e
 cases xs with
 | nil=>cases hx
 | cons y xs =>
  simp at hx
  subst hx
  unfold partsOk at h
  rw [Bool.and_eq_true] at h
  exact h.1
theorem check_of {xs:List ByteArray} {r:Bool} (h1:partsOk xs=true) (h2:xs.length≤12) (h3:0<xs.length) (h4:xs.length=1→r=true):checkP xs r=0:=by
 rw [check_good (by
  rintro (h|⟨h,k⟩)
  ·omega
  ·rw [h4 h] at k;cases k) h1,if_neg (by omega)]
theorem check_one {xs:List ByteArray} {r:Bool} (h:checkP xs r=0) (h1:xs.length=1):r=true:=by
 cases r with
 | true=>rfl
 | false=>rw [check_short (.inr ⟨h1,rfl⟩)] at h;cases h
theorem mz_means {us vs:List ByteArray} {r t:Bool} {s:ByteArray} (hl:vs.length≤us.length) (hu:checkP us r=0) (hv:checkP vs t=0) (hco:(vs.length<us.length→t=true)∧(vs.length=us.length→r=t)) (h:okOf nrwOk (us.zip vs)=true) :
 checkP (mzAll us vs) (r&&t)=0∧matchOk mpOk (mzAll us vs) (r&&t) s=(matchOk mpOk us r s&&matchOk mpOk vs t s):=by
 have hlen:=mzAll_len hl
 have hck:checkP (mzAll us vs) (r&&t)=0:=by
  have cu:=check_zero hu
  have cv:=check_zero hv
  refine check_of (parts_ok_of (by omega) fun k z hz=>?_) (by omega) (by omega) (fun h1=>?_)
  ·obtain ⟨x,hx,e⟩:=mzAll_back hl hz
   have px:=parts_get cu.2.2 hx
   cases hy:vs[k]? with
   | none=>rw [hy] at e;subst e;exact px
   | some y =>
    rw [hy] at e
    subst e
    have py:=parts_get cv.2.2 hy
    have hn:=ok_iff.1 h k x y hx hy
    show partB (nrw x y)=true∧(k=0→comp (nrw x y).data.toList=true)
    rcases nrw_one hn with e|e<;>rw [e]
    ·exact px
    ·exact py
  ·have e1:=check_one hu (by omega)
   have e2:=check_one hv (by omega)
   rw [e1,e2]
   rfl
 refine ⟨hck,?_⟩
 unfold matchOk
 rw [hck,hu,hv,hlen]
 cases hp:pathOk s.data.toList with
 | false=>rfl
 | true =>
  simp only [Bool.true_and,BEq.rfl]
  have key:lensOk us.length (compsB s).length (r&&t)=(lensOk us.length (compsB s).length r&&lensOk vs.length (compsB s).length t):=by
   rw [Bool.eq_iff_iff,Bool.and_eq_true,lens_iff,lens_iff,lens_iff]
   rcases Nat.lt_or_ge vs.length us.length with g|g
   ·have:=hco.1 g
    subst this
    rw [Bool.and_true]
    constructor
    ·rintro ⟨a,b,c⟩
     exact ⟨⟨a,b,c⟩,by omega,fun _=>by omega,fun e=>by cases e⟩
    ·exact fun x=>x.1
   ·have e:vs.length=us.length:=by omega
    have:=hco.2 e
    subst this
    rw [Bool.and_self,e]
    exact ⟨fun x=>⟨x,x⟩,fun x=>x.1⟩
  rw [key]
  cases h1:lensOk us.length (compsB s).length r with
  | false=>rfl
  | true =>
   have hc:=(lens_lo h1).1
   rw [mz_ok hl h hc]
   cases lensOk vs.length (compsB s).length t with
   | false=>simp
   | true=>simp
theorem mz_apart {us vs:List ByteArray} {r t:Bool} {s:ByteArray} (hb:¬ ((vs.length<us.length→t=true)∧(vs.length=us.length→r=t))∨okOf nrwOk (us.zip vs)=false) (hl:vs.length≤us.length) :
 (matchOk mpOk us r s&&matchOk mpOk vs t s)=false:=by
 rw [Bool.eq_false_iff]
 intro k
 rw [Bool.and_eq_true] at k
 obtain ⟨k1,k2⟩:=k
 unfold matchOk at k1 k2
 rw [Bool.and_eq_true,Bool.and_eq_true,Bool.and_eq_true] at k1 k2
 have l1:=lens_lo k1.1.2
 have l2:=lens_lo k2.1.2
 rcases hb with hb|hb
 ·refine hb ⟨fun g=>?_,fun g=>?_⟩
  ·cases t with
   | true=>rfl
   | false=>have:=l2.2.2 rfl;omega
  ·cases r<;>cases t<;>first|rfl|(exfalso;have h1:=l1.2;have h2:=l2.2;simp at h1 h2;omega)
 ·rw [mz_nest l1.1 k1.2 k2.2] at hb
  cases hb
theorem compat_iff {n m:Nat} {r t:Bool} (h:m≤n):compatB n r m t=true↔(m<n→t=true)∧(m=n→r=t):=by
 unfold compatB
 cases r<;>cases t<;>simp<;>omega
theorem compat_turn (n m:Nat) (r t:Bool):compatB n r m t=compatB m t n r:=by
 unfold compatB
 cases r<;>cases t<;>simp [eq_comm]
theorem meet_means (xs ys:List ByteArray) (r t:Bool) (s:ByteArray) :
 (meetOk xs ys r t=true→checkP (meetL xs ys) (r&&t)=0∧matchOk mpOk (meetL xs ys) (r&&t) s=(matchOk mpOk xs r s&&matchOk mpOk ys t s)) ∧
 (meetOk xs ys r t=false→(matchOk mpOk xs r s&&matchOk mpOk ys t s)=false):=by
 unfold meetOk meetL
 by_cases hx:checkP xs r=0
 ·by_cases hy:checkP ys t=0
  ·rw [hx,hy]
   simp only [BEq.rfl,Bool.true_and]
   by_cases hl:xs.length<ys.length
   ·rw [if_pos hl,if_pos hl,compat_turn,Bool.and_comm r t,Bool.and_comm (matchOk mpOk xs r s)]
    refine ⟨fun h=>?_,fun h=>?_⟩
    ·rw [Bool.and_eq_true,compat_iff (by omega)] at h
     exact mz_means (by omega) hy hx h.1 h.2
    ·refine mz_apart ?_ (by omega)
     rw [Bool.and_eq_false_iff] at h
     rcases h with h|h
     ·left
      intro k
      rw [(compat_iff (by omega)).2 k] at h
      cases h
     ·exact .inr h
   ·rw [if_neg hl,if_neg hl]
    refine ⟨fun h=>?_,fun h=>?_⟩
    ·rw [Bool.and_eq_true,compat_iff (by omega)] at h
     exact mz_means (by omega) hx hy h.1 h.2
    ·refine mz_apart ?_ (by omega)
     rw [Bool.and_eq_false_iff] at h
     rcases h with h|h
     ·left
      intro k
      rw [(compat_iff (by omega)).2 k] at h
      cases h
     ·exact .inr h
  ·have e:(checkP ys t==0)=false:=beq_eq_false_iff_ne.2 hy
   rw [e]
   refine ⟨fun h=>by simp at h,fun _=>?_⟩
   unfold matchOk
   rw [e]
   simp
 ·have e:(checkP xs r==0)=false:=beq_eq_false_iff_ne.2 hx
  rw [e]
  refine ⟨fun h=>by simp at h,fun _=>?_⟩
  unfold matchOk
  rw [e]
  simp
theorem within_means {xs ys:List ByteArray} {r t:Bool} {s:ByteArray} (h:withinOk insB xs ys r t=true) (k:matchOk mpOk xs r s=true):matchOk mpOk ys t s=true:=by
 unfold withinOk insideOk at h
 rw [Bool.and_eq_true,Bool.and_eq_true,Bool.and_eq_true,beq_iff_eq,beq_iff_eq] at h
 obtain ⟨hx,hy,hl,ho⟩:=h
 unfold matchOk at k ⊢
 rw [Bool.and_eq_true,Bool.and_eq_true,Bool.and_eq_true] at k
 obtain ⟨⟨⟨k1,_⟩,k3⟩,k4⟩:=k
 have l:=lens_lo k3
 have hle:=lensIn_le hl
 have hlen:lensOk ys.length (compsB s).length t=true:=by
  rw [lens_iff]
  unfold lensIn at hl
  refine ⟨by omega,fun e=>?_,fun e=>?_⟩
  ·rw [e,if_pos rfl] at hl
   cases r with
   | true=>have:=l.2.1 rfl;omega
   | false=>have:=l.2.2 rfl;simp at hl;omega
  ·rw [e,if_neg (by decide)] at hl
   cases r with
   | true=>simp at hl
   | false=>have:=l.2.2 rfl;simp at hl;omega
 rw [k1,hy,hlen]
 simp only [Bool.true_and,BEq.rfl]
 rw [ok_iff] at ho k4 ⊢
 intro i y c hy2 hc
 have hi:i<ys.length:=(sI.1 hy2).1
 obtain ⟨x,hx2⟩:∃ x,xs[i]? = some x:=⟨_,gE (by omega)⟩
 exact ins_mp (ho i x y hx2 hy2) (k4 i x c hx2 hc)
theorem meetL_mem {xs ys:List ByteArray} {r t:Bool} (h:meetOk xs ys r t=true) {z:ByteArray} (hz:z∈meetL xs ys):z∈xs∨z∈ys:=by
 unfold meetOk at h
 unfold meetL at hz
 rw [Bool.and_eq_true] at h
 obtain ⟨k,hk⟩:=List.getElem?_of_mem hz
 have key:∀ us vs:List ByteArray,vs.length≤us.length→okOf nrwOk (us.zip vs)=true→(mzAll us vs)[k]? = some z→z∈us∨z∈vs:=by
  intro us vs hl ho hz
  obtain ⟨x,hx,e⟩:=mzAll_back hl hz
  cases hy:vs[k]? with
  | none=>rw [hy] at e;subst e;exact .inl (mG hx)
  | some y =>
   rw [hy] at e
   have e2:z=nrw x y:=e
   rcases nrw_one (ok_iff.1 ho k x y hx hy) with e3|e3<;>rw [e3] at e2<;>subst e2
   ·exact .inl (mG hx)
   ·exact .inr (mG hy)
 by_cases hl:xs.length<ys.length
 ·rw [if_pos hl] at hk h
  exact (key ys xs (by omega) h.2 hk).symm
 ·rw [if_neg hl] at hk h
  exact key xs ys (by omega) h.2 hk
end Go.Proofs.YtelkmeiepliecaaGreatDoor
