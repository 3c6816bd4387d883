/-
  Part 13 of the proof.
-/
import Derived.Test.YtelkmeiepliecaaGreatDoorU12
set_option linter.unusedSimpArgs false
set_option linter.unusedVariables false
set_option maxHeartbeats 16000000
namespace Go.Proofs.YtelkmeiepliecaaGreatDoor
open Go.RowKit
open Pm
def bsOk (st:Nat) (bs:List (List ByteArray×Bool)):Bool:=(List.range bs.length).all fun i=>bindOk (bs.getD i ([],false)).1 (bs.getD i ([],false)).2 (decide (i=st))
theorem bsOk_iff {st:Nat} {bs:List (List ByteArray×Bool)}:bsOk st bs=true↔BO st bs bs.length:=by
 unfold bsOk BO
 rw [List.all_eq_true]
 constructor
 ·intro h i p hi hp
  have:=h i (List.mem_range.2 hi)
  rwa [List.getD,hp] at this
 ·intro h i hi
  have hil:=List.mem_range.1 hi
  have:=h i bs[i] hil (gE hil)
  rw [List.getD,gE hil]
  exact this
def lastP (xs:List ByteArray) (bs:List (List ByteArray×Bool)):List ByteArray×Bool:=bs.getD (countB stB xs) ([],false)
def subE (xs:List ByteArray) (r:Bool) (bs:List (List ByteArray×Bool)):Int :=
 if checkP xs r≠0 then checkP xs r else if bs.length≠wildB stB xs r then 33 else if bsOk (countB stB xs) bs=false then 33 else if r=true∧12<xs.length+(lastP xs bs).1.length then 31 else 0
def subL (xs:List ByteArray) (r:Bool) (bs:List (List ByteArray×Bool)):List ByteArray:=if subE xs r bs=0 then flC stB tlB xs (bs.map hdP)++(if r=true then (lastP xs bs).1 else []) else []
def subR (xs:List ByteArray) (r:Bool) (bs:List (List ByteArray×Bool)):Bool:=if subE xs r bs=0 then r&&(lastP xs bs).2 else false
theorem sub_err {xs:List ByteArray} {r:Bool} {bs:List (List ByteArray×Bool)} {n:Int} (h:subE xs r bs=n) (hn:n≠0):subL xs r bs=[]∧subR xs r bs=false:=by
 unfold subL subR
 rw [if_neg (by rw [h];exact hn),if_neg (by rw [h];exact hn)]
 exact ⟨rfl,rfl⟩
theorem sub_any (A B:Option Addr) (c d:Nat) (xs:List ByteArray) (r:Bool) (bs:List (List ByteArray×Bool)) (w:World) (h:RT w A c xs) (k:BT w B d bs)
 (hsx:∀ x∈xs,x.size≤5000) (hbz:∀ b∈bs,∀ x∈b.1,x.size≤5000) (hbl:∀ b∈bs,b.1.length≤5000) :
 Calls Tryz.prog 89 #[.agg #[.slice A xs.length c,.bool r],.slice B bs.length d] w (RetP w (subL xs r bs) (subR xs r bs) (subE xs r bs)):=by
 have hsx9:∀ x∈xs,x.size≤9223372036854775807:=fun x hx=>by have:=hsx x hx;omega
 have hbz9:∀ b∈bs,∀ x∈b.1,x.size≤9223372036854775807:=fun b hb x hx=>by have:=hbz b hb x hx;omega
 by_cases hn:checkP xs r=0
 ·by_cases hl:bs.length=wildB stB xs r
  ·by_cases ho:bsOk (countB stB xs) bs=true
   ·have hbo:=bsOk_iff.1 ho
    cases r with
    | false =>
     have e:subE xs false bs=0:=by
      unfold subE
      rw [if_neg (by simp [hn]),if_neg (by simp [hl]),if_neg (by simp [ho]),if_neg (by simp)]
     have e1:subL xs false bs=flC stB tlB xs (bs.map hdP):=by unfold subL;rw [if_pos e];simp
     have e2:subR xs false bs=false:=by unfold subR;rw [if_pos e];rfl
     rw [e,e1,e2]
     exact sub_plain A B c d xs bs w h k hsx9 hbz9 hn hl hbo hsx hbz
    | true =>
     have hst:countB stB xs<bs.length:=by unfold wildB at hl;simp at hl;omega
     have hp:bs[countB stB xs]? = some (lastP xs bs):=by unfold lastP;rw [List.getD,gE hst];rfl
     have hz:=hbl _ (mG hp)
     by_cases h12:12<xs.length+(lastP xs bs).1.length
     ·have e:subE xs true bs=31:=by
       unfold subE
       rw [if_neg (by simp [hn]),if_neg (by simp [hl]),if_neg (by simp [ho]),if_pos ⟨rfl,h12⟩]
      rw [e,(sub_err e (by decide)).1,(sub_err e (by decide)).2]
      exact sub_limit A B c d xs (lastP xs bs).1 (lastP xs bs).2 bs w h k hsx9 hbz9 hn hl hbo hsx hbz hp hz h12
     ·have e:subE xs true bs=0:=by
       unfold subE
       rw [if_neg (by simp [hn]),if_neg (by simp [hl]),if_neg (by simp [ho]),if_neg (fun h=>h12 h.2)]
      have e1:subL xs true bs=flC stB tlB xs (bs.map hdP)++(lastP xs bs).1:=by unfold subL;rw [if_pos e,if_pos rfl]
      have e2:subR xs true bs=(lastP xs bs).2:=by unfold subR;rw [if_pos e];rfl
      rw [e,e1,e2]
      exact sub_rest A B c d xs (lastP xs bs).1 (lastP xs bs).2 bs w h k hsx9 hbz9 hn hl hbo hsx hbz hp hz h12
   ·have ho':bsOk (countB stB xs) bs=false:=by simpa using ho
    have e:subE xs r bs=33:=by
     unfold subE
     rw [if_neg (by simp [hn]),if_neg (by simp [hl]),if_pos ho']
    rw [e,(sub_err e (by decide)).1,(sub_err e (by decide)).2]
    exact sub_bad A B c d xs bs r w h k hsx9 hbz9 hn hl (fun hb=>ho (bsOk_iff.2 hb))
  ·have e:subE xs r bs=33:=by
    unfold subE
    rw [if_neg (by simp [hn]),if_pos hl]
   rw [e,(sub_err e (by decide)).1,(sub_err e (by decide)).2]
   exact sub_len A B c d xs bs r w h k hsx9 hn hl
 ·have e:subE xs r bs=checkP xs r:=by
   unfold subE
   rw [if_pos hn]
  rw [e,(sub_err e hn).1,(sub_err e hn).2]
  exact sub_chk A B c d xs bs r w h k hsx9 hn
open Go.RowKit
open Pm
end Go.Proofs.YtelkmeiepliecaaGreatDoor
namespace Go.Proofs.YtelkmeiepliecaaGreatDoor
open Go.RowKit
open Pm
def bindR:List ByteArray→List ByteArray→List (List ByteArray×Bool)
 | x::xs,y::ys=>if stB x=true then ([trB x y],false)::bindR xs ys else bindR xs ys
 | _,_=>[]
theorem starI_cons (x:ByteArray) (xs:List ByteArray):starI (x::xs) (x::xs).length=(if stB x=true then [0] else [])++(starI xs xs.length).map Nat.succ:=by
 unfold starI
 rw [List.length_cons,List.range_succ_eq_map,List.filter_cons,List.filter_map]
 have e:(fun i=>stB ((x::xs).getD i eB)) ∘ Nat.succ=fun i=>stB (xs.getD i eB):=by funext i;simp
 rw [e]
 by_cases h:stB x=true
 ·rw [if_pos h,if_pos (by simpa using h)];rfl
 ·rw [if_neg h,if_neg (by simpa using h)];rfl
theorem bindI_eq:∀ (xs ys:List ByteArray),xs.length≤ys.length→bindI xs ys xs.length=bindR xs ys
 | [],ys,_=>by simp [bindI,starI,bindR]
 | x::xs,[],h=>by simp at h
 | x::xs,y::ys,h=>by
  have ih:=bindI_eq xs ys (by simpa using h)
  unfold bindI at ih ⊢
  rw [starI_cons,List.map_append,List.map_map]
  have e:((fun i=>([trB ((x::xs).getD i eB) ((y::ys).getD i eB)],false)) ∘ Nat.succ:Nat→List ByteArray×Bool)=fun i=>([trB (xs.getD i eB) (ys.getD i eB)],false):=by funext i;simp
  rw [e,ih]
  conv=>rhs;unfold bindR
  by_cases hs:stB x=true
  ·rw [if_pos hs,if_pos hs];rfl
  ·rw [if_neg hs,if_neg hs];rfl
theorem bindR_len:∀ (xs ys:List ByteArray),xs.length≤ys.length→(bindR xs ys).length=countB stB xs
 | [],ys,_=>by simp [bindR,countB]
 | x::xs,[],h=>by simp at h
 | x::xs,y::ys,h=>by
  have ih:=bindR_len xs ys (by simpa using h)
  rw [count_cons]
  unfold bindR
  by_cases hs:stB x=true
  ·rw [if_pos hs,if_pos hs,List.length_cons,ih];omega
  ·rw [if_neg hs,if_neg hs,ih];omega
theorem star_head {x:ByteArray} (h:stB x=true):x.data.toList=42::(tlB x).data.toList:=by
 have hp:=stB_pos h
 have h0:x[0]=42:=by rw [stB_eq hp] at h;simpa using h
 have e:x.data.toList=x[0]::x.data.toList.tail:=by
  obtain ⟨⟨l⟩⟩:=x
  cases l with
  | nil=>exact absurd hp (Nat.lt_irrefl 0)
  | cons c l=>rfl
 rw [tlB_data,e,h0]
 rfl
theorem ins_cut {x y:ByteArray} (hs:stB x=true) (h:insB y x=true):∃ a,a≠[]∧y.data.toList=a++(tlB x).data.toList:=by
 unfold insB at h
 by_cases he:y=x
 ·refine ⟨[42],by simp,?_⟩
  rw [he,star_head hs]
  rfl
 ·rw [if_neg he,if_neg (by rw [hs];decide)] at h
  cases hy:stB y with
  | true =>
   rw [hy,if_pos rfl,suf_iff] at h
   obtain ⟨c,hc⟩:=h
   refine ⟨42::c,by simp,?_⟩
   rw [star_head hy,← hc]
   rfl
  | false =>
   rw [hy,if_neg (by decide)] at h
   exact (mp_star hs).1 h
theorem tr_of {x y:ByteArray} {a:List UInt8} (e:y.data.toList=a++(tlB x).data.toList):trB x y=mkB a:=by
 unfold trB
 rw [e,trim_of]
theorem comp_pre {a b:List UInt8} (h0:a≠[]) (h:comp (a++b)=true):comp a=true:=by
 cases a with
 | nil=>exact absurd rfl h0
 | cons c a =>
  simp only [comp,List.cons_append,Bool.and_eq_true,List.all_cons,List.all_append] at h ⊢
  exact ⟨h.1,h.2.1,h.2.2.1⟩
theorem stB_mk (c:UInt8) (a:List UInt8):stB (mkB (c::a))=decide (c=42):=by
 unfold stB Lib.hasPrefix
 rw [mkB_data]
 simp only [List.isPrefixOf,Bool.and_true]
 rw [Bool.eq_iff_iff,beq_iff_eq,decide_eq_true_iff]
 exact eq_comm
theorem star_pre {a b:List UInt8} (h0:a≠[]) (h:starOk (mkB (a++b))=true):starOk (mkB a)=true:=by
 cases a with
 | nil=>exact absurd rfl h0
 | cons c a =>
  unfold starOk at h ⊢
  rw [List.cons_append,stB_mk,mkB_data] at h
  rw [stB_mk,mkB_data]
  simp only [List.drop_succ_cons,List.drop_zero,Bool.and_eq_true,List.all_append] at h ⊢
  exact ⟨h.1,h.2.1⟩
theorem part_pre {a b:List UInt8} (h0:a≠[]) (h:partB (mkB (a++b))=true):partB (mkB a)=true:=by
 unfold partB at h ⊢
 rw [Bool.or_eq_true,mkB_data] at h ⊢
 rcases h with h|h
 ·exact .inl (star_pre h0 h)
 ·exact .inr (comp_pre h0 h)
theorem bind_part {x y:ByteArray} (hs:stB x=true) (hy:partB y=true) (h:insB y x=true):partB (trB x y)=true∧trB x y++tlB x=y:=by
 obtain ⟨a,h0,e⟩:=ins_cut hs h
 have ey:y=mkB (a++(tlB x).data.toList):=by rw [←e,mkB_back]
 refine ⟨?_,?_⟩
 ·rw [tr_of e]
  rw [ey] at hy
  exact part_pre h0 hy
 ·rw [tr_of e,mkB_app,← ey]
theorem ins_lit {x y:ByteArray} (hs:stB x=false) (h:insB y x=true):y=x:=by
 unfold insB at h
 by_cases he:y=x
 ·exact he
 ·rw [if_neg he,if_pos hs] at h;cases h
theorem flC_bind:∀ (xs ys:List ByteArray) (more:List (List ByteArray×Bool)),xs.length≤ys.length→(∀ (k:Nat) (x y:ByteArray),xs[k]? = some x→ys[k]? = some y→partB y=true∧insB y x=true) →
 flC stB tlB xs ((bindR xs ys++more).map hdP)=ys.take xs.length
 | [],ys,more,_,_=>by simp [flC]
 | x::xs,[],more,h,_=>by simp at h
 | x::xs,y::ys,more,h,ho=>by
  have ih:=flC_bind xs ys more (by simpa using h) (fun k u v hu hv=>ho (k+1) u v (by simpa using hu) (by simpa using hv))
  have h1:=ho 0 x y rfl rfl
  unfold flC bindR
  by_cases hs:stB x=true
  ·rw [if_pos hs,if_pos hs,List.cons_append,List.map_cons,List.tail_cons,ih,List.length_cons,List.take_succ_cons]
   show (trB x y++tlB x)::_=_
   rw [(bind_part hs h1.1 h1.2).2]
  ·rw [if_neg hs,if_neg hs,ih,List.length_cons,List.take_succ_cons,ins_lit (by simpa using hs) h1.2]
theorem bindR_ok:∀ (xs ys:List ByteArray),(∀ (k:Nat) (x y:ByteArray),xs[k]? = some x→ys[k]? = some y→partB y=true∧insB y x=true)→∀ p∈bindR xs ys,∃ z,p=([z],false)∧partB z=true
 | [],ys,_,p,hp=>by simp [bindR] at hp
 | x::xs,[],_,p,hp=>by simp [bindR] at hp
 | x::xs,y::ys,ho,p,hp=>by
  have ih:=bindR_ok xs ys (fun k u v hu hv=>ho (k+1) u v (by simpa using hu) (by simpa using hv))
  unfold bindR at hp
  by_cases hs:stB x=true
  ·rw [if_pos hs] at hp
   rcases List.mem_cons.1 hp with rfl|hp
   ·have h1:=ho 0 x y rfl rfl
    exact ⟨_,rfl,(bind_part hs h1.1 h1.2).1⟩
   ·exact ih p hp
  ·rw [if_neg hs] at hp
   exact ih p hp
theorem bind_sub {xs ys:List ByteArray} {r t:Bool} (h:withinOk insB ys xs t r=true):subE xs r (bindB xs ys r t)=0∧subL xs r (bindB xs ys r t)=ys∧subR xs r (bindB xs ys r t)=t:=by
 unfold withinOk insideOk at h
 rw [Bool.and_eq_true,Bool.and_eq_true,Bool.and_eq_true,beq_iff_eq,beq_iff_eq] at h
 obtain ⟨hy,hx,hl,ho⟩:=h
 have hle:=lensIn_le hl
 rw [ok_iff] at ho
 have cy:=check_zero hy
 have cx:=check_zero hx
 have hP:=parts_all cy.2.2
 have hpos:∀ (k:Nat) (x y:ByteArray),xs[k]? = some x→ys[k]? = some y→partB y=true∧insB y x=true:=fun k x y h1 h2=>⟨hP y (mG h2),ho k y x h2 h1⟩
 have hlen:=bindR_len xs ys hle
 have hB:bindB xs ys r t=bindR xs ys++if r=true then [(ys.drop xs.length,t)] else []:=by unfold bindB;rw [bindI_eq xs ys hle]
 have hbl:(bindB xs ys r t).length=wildB stB xs r:=by
  rw [hB,List.length_append,hlen]
  unfold wildB
  cases r<;>rfl
 have hlast:r=true→lastP xs (bindB xs ys r t)=(ys.drop xs.length,t):=fun e=>by
  unfold lastP
  rw [hB,if_pos e,List.getD,List.getElem?_append_right (by omega),hlen,Nat.sub_self]
  rfl
 have hbo:bsOk (countB stB xs) (bindB xs ys r t)=true:=by
  rw [bsOk_iff]
  intro i p hi hp
  rw [hB] at hp
  rcases Nat.lt_or_ge i (countB stB xs) with hlt|hge
  ·rw [List.getElem?_append_left (by omega)] at hp
   obtain ⟨z,rfl,hz⟩:=bindR_ok xs ys hpos p (mG hp)
   rw [decide_eq_false (by omega)]
   unfold bindOk
   rw [if_neg (by simp)]
   simpa using hz
  ·rw [List.getElem?_append_right (by omega),hlen] at hp
   cases r with
   | false=>simp at hp
   | true =>
    rw [if_pos rfl] at hp
    have hi0:i-countB stB xs=0:=by
     have:=(sI.1 hp).1
     simp at this
     omega
    rw [hi0] at hp
    obtain rfl:=Option.some.inj hp
    rw [decide_eq_true (by omega)]
    unfold bindOk
    rw [if_neg]
    ·exact List.all_eq_true.2 fun z hz=>hP z (List.mem_of_mem_drop hz)
    ·rintro (⟨h,_⟩|⟨h1,h2⟩)
     ·cases h
     ·unfold lensIn at hl
      rw [if_pos rfl] at hl
      simp at h1 h2
      rw [h2] at hl
      simp at hl
      omega
 have hE:subE xs r (bindB xs ys r t)=0:=by
  unfold subE
  rw [if_neg (by simp [hx]),if_neg (by simp [hbl]),if_neg (by simp [hbo]),if_neg]
  rintro ⟨e,h12⟩
  rw [hlast e] at h12
  have:=cy.2.1
  simp at h12
  omega
 refine ⟨hE,?_,?_⟩
 ·unfold subL
  rw [if_pos hE]
  cases r with
  | true =>
   rw [hlast rfl,if_pos rfl,hB,if_pos rfl,flC_bind xs ys _ hle hpos,List.take_append_drop]
  | false =>
   have hq:ys.length=xs.length:=by
    unfold lensIn at hl
    rw [if_neg (by decide)] at hl
    simp at hl
    exact hl.2
   rw [hB,if_neg (by decide),if_neg (by decide),flC_bind xs ys _ hle hpos,List.append_nil,← hq,List.take_length]
 ·unfold subR
  rw [if_pos hE]
  cases r with
  | true=>rw [hlast rfl];rfl
  | false =>
   unfold lensIn at hl
   rw [if_neg (by decide)] at hl
   simp at hl
   rw [hl.1]
   rfl
theorem tl_app {y:ByteArray} {b:List UInt8} (h:0<y.size):(tlB (mkB (y.data.toList++b))).data.toList=(tlB y).data.toList++b:=by
 rw [tlB_data,tlB_data,mkB_data,List.drop_append_of_le_length (by rw [←Lib.size_eq];omega)]
theorem part_pos {y:ByteArray} (h:partB y=true):0<y.size:=by
 apply Classical.byContradiction
 intro k
 unfold partB at h
 have hl:=bytes_nil (s:=y) (by omega)
 rw [Bool.or_eq_true] at h
 rcases h with h|h
 ·unfold starOk at h
  rw [stB_nil (by omega)] at h
  cases h
 ·rw [hl] at h;cases h
theorem data_ne {y:ByteArray} (h:0<y.size):y.data.toList≠[]:=fun e=>by
 rw [Lib.size_eq,e] at h
 exact Nat.lt_irrefl 0 h
theorem sub_part {x y:ByteArray} (hx:partB x=true) (hs:stB x=true) (hy:partB y=true):partB (y++tlB x)=true∧insB (y++tlB x) x=true∧trB x (y++tlB x)=y:=by
 have ht:=star_tail hx hs
 have hp:=part_pos hy
 have ed:(y++tlB x).data.toList=y.data.toList++(tlB x).data.toList:=app_data _ _
 have em:y++tlB x=mkB (y.data.toList++(tlB x).data.toList):=by rw [←ed,mkB_back]
 refine ⟨?_,?_,?_⟩
 ·unfold partB at hy ⊢
  rw [Bool.or_eq_true] at hy ⊢
  rcases hy with hy|hy
  ·left
   unfold starOk at hy ⊢
   rw [Bool.and_eq_true] at hy ⊢
   have h1:=star_head hy.1
   rw [em]
   refine ⟨by rw [h1,List.cons_append,stB_mk];rfl,?_⟩
   rw [←tlB_data,tl_app hp,List.all_append,ht,tlB_data,hy.2]
   rfl
  ·right
   rw [ed]
   exact comp_app hy ht
 ·unfold insB
  by_cases he:y++tlB x=x
  ·rw [if_pos he]
  ·rw [if_neg he,if_neg (by rw [hs];decide)]
   cases h2:stB (y++tlB x) with
   | true =>
    rw [if_pos rfl,suf_iff,em,tl_app hp]
    exact ⟨_,rfl⟩
   | false =>
    rw [if_neg (by decide)]
    exact (mp_star hs).2 ⟨_,data_ne hp,ed⟩
 ·rw [tr_of ed,mkB_back]
theorem drop_consP {α:Type} {xs:List α} {k:Nat} {x:α} (h:xs[k]? = some x):xs.drop k=x::xs.drop (k+1):=by
 obtain ⟨hk,e⟩:=sI.1 h
 rw [List.drop_eq_getElem_cons hk,e]
theorem flC_sub:∀ (xs:List ByteArray) (bs:List (List ByteArray×Bool)) (more:List ByteArray),(∀ x∈xs,partB x=true)→countB stB xs≤bs.length→(∀ (j:Nat) p,j<countB stB xs→bs[j]? = some p→∃ y,p=([y],false)∧partB y=true) →
 bindR xs (flC stB tlB xs (bs.map hdP)++more)=bs.take (countB stB xs)∧∀ (k:Nat) (x y:ByteArray),xs[k]? = some x→(flC stB tlB xs (bs.map hdP))[k]? = some y→partB y=true∧insB y x=true∧(stB x=false→y=x)
 | [],bs,more,_,_,_=>⟨by simp [bindR,countB],fun k x y h=>by simp at h⟩
 | x::xs,bs,more,hx,hb,ho=>by
  rw [count_cons] at hb ho ⊢
  have hx0:=hx x (by simp)
  by_cases hs:stB x=true
  ·rw [if_pos hs] at hb ho ⊢
   cases bs with
   | nil=>simp at hb<;>omega
   | cons p bs =>
    obtain ⟨y,rfl,hy⟩:=ho 0 p (by omega) rfl
    have ih:=flC_sub xs bs more (fun z hz=>hx z (by simp [hz])) (by simp at hb;omega) (fun j q hj hq=>ho (j+1) q (by omega) (by simpa using hq))
    have hsp:=sub_part hx0 hs hy
    have e:flC stB tlB (x::xs) ((([y],false)::bs).map hdP)=(y++tlB x)::flC stB tlB xs (bs.map hdP):=by
     conv=>lhs;unfold flC
     rw [if_pos hs]
     rfl
    rw [e]
    refine ⟨?_,fun k u v hu hv=>?_⟩
    ·rw [List.cons_append]
     unfold bindR
     rw [if_pos hs,ih.1,hsp.2.2,Nat.add_comm 1,List.take_succ_cons]
    ·rcases k with _|k
     ·simp at hu hv
      subst hu hv
      exact ⟨hsp.1,hsp.2.1,fun h=>by rw [hs] at h;cases h⟩
     ·exact ih.2 k u v (by simpa using hu) (by simpa using hv)
  ·rw [if_neg hs,Nat.zero_add] at hb ho ⊢
   have ih:=flC_sub xs bs more (fun z hz=>hx z (by simp [hz])) hb ho
   have e:flC stB tlB (x::xs) (bs.map hdP)=x::flC stB tlB xs (bs.map hdP):=by
    conv=>lhs;unfold flC
    rw [if_neg hs]
   rw [e]
   refine ⟨?_,fun k u v hu hv=>?_⟩
   ·rw [List.cons_append]
    unfold bindR
    rw [if_neg hs,ih.1]
   ·rcases k with _|k
    ·simp at hu hv
     subst hu hv
     exact ⟨hx0,by unfold insB;rw [if_pos rfl],fun _=>rfl⟩
    ·exact ih.2 k u v (by simpa using hu) (by simpa using hv)
theorem sub_bind {xs:List ByteArray} {r:Bool} {bs:List (List ByteArray×Bool)} (h:subE xs r bs=0) :
 withinOk insB (subL xs r bs) xs (subR xs r bs) r=true∧bindB xs (subL xs r bs) r (subR xs r bs)=bs:=by
 have hL:subL xs r bs=flC stB tlB xs (bs.map hdP)++(if r=true then (lastP xs bs).1 else []):=by unfold subL;rw [if_pos h]
 have hR:subR xs r bs=(r&&(lastP xs bs).2):=by unfold subR;rw [if_pos h]
 unfold subE at h
 by_cases hx:checkP xs r=0
 ·rw [if_neg (by simp [hx])] at h
  by_cases hl:bs.length=wildB stB xs r
  ·rw [if_neg (by simp [hl])] at h
   by_cases hb:bsOk (countB stB xs) bs=true
   ·rw [if_neg (by simp [hb])] at h
    have h12:¬ (r=true∧12<xs.length+(lastP xs bs).1.length):=fun e=>by rw [if_pos e] at h;cases h
    have hbo:=bsOk_iff.1 hb
    have cx:=check_zero hx
    have hP:=parts_all cx.2.2
    have hcl:countB stB xs≤bs.length:=by rw [hl];unfold wildB;omega
    have hone:∀ (j:Nat) p,j<countB stB xs→bs[j]? = some p→∃ y,p=([y],false)∧partB y=true:=fun j p hj hp=>hbo.one hj hp
    have hlen:=flC_len stB tlB xs (bs.map hdP)
    have hlast:r=true→bs[countB stB xs]? = some (lastP xs bs)∧bs=bs.take (countB stB xs)++[lastP xs bs]:=fun e=>by
     have hc:countB stB xs<bs.length:=by rw [hl];unfold wildB;rw [if_pos e];omega
     have e1:bs[countB stB xs]? = some (lastP xs bs):=by unfold lastP;rw [List.getD,gE hc];rfl
     refine ⟨e1,?_⟩
     have h2:bs.length=countB stB xs+1:=by rw [hl];unfold wildB;rw [if_pos e]
     conv=>lhs;rw [←List.take_append_drop (countB stB xs) bs]
     rw [drop_consP e1,List.drop_eq_nil_of_le (by omega)]
    have hlp:r=true→((lastP xs bs).1.length=0→(lastP xs bs).2=true)∧∀ z∈(lastP xs bs).1,partB z=true:=fun e=>by
     have h1:=hbo _ _ (sI.1 (hlast e).1).1 (hlast e).1
     rw [decide_eq_true rfl] at h1
     unfold bindOk at h1
     split at h1
     ·cases h1
     ·rename_i hn
      refine ⟨fun e0=>?_,List.all_eq_true.1 h1⟩
      cases hq:(lastP xs bs).2 with
      | true=>rfl
      | false=>exact absurd (.inr ⟨e0,hq⟩) hn
    obtain ⟨m,hm⟩:∃ m,m=(if r=true then (lastP xs bs).1 else []):=⟨_,rfl⟩
    rw [←hm] at hL
    have hF:=flC_sub xs bs m hP hcl hone
    have hml:r=false→m=[]:=fun e=>by rw [hm,e];rfl
    have hmr:r=true→m=(lastP xs bs).1:=fun e=>by rw [hm,if_pos e]
    have hmp:∀ z∈m,partB z=true:=fun z hz=>by
     cases r with
     | true=>rw [hmr rfl] at hz;exact (hlp rfl).2 z hz
     | false=>rw [hml rfl] at hz;cases hz
    have hLl:(subL xs r bs).length=xs.length+m.length:=by rw [hL,List.length_append,hlen]
    have hget:∀ (k:Nat) (x y:ByteArray),xs[k]? = some x→(subL xs r bs)[k]? = some y→(flC stB tlB xs (bs.map hdP))[k]? = some y:=fun k x y h1 h2=>by
     have:=(sI.1 h1).1
     rw [hL,List.getElem?_append_left (by omega)] at h2
     exact h2
    have hck:checkP (subL xs r bs) (subR xs r bs)=0:=by
     refine check_of (parts_ok_of (by omega) fun k z hz=>?_) ?_ (by omega) (fun h1=>?_)
     ·rcases Nat.lt_or_ge k xs.length with hk|hk
      ·obtain ⟨x,hxk⟩:∃ x,xs[k]? = some x:=⟨_,gE hk⟩
       have h2:=hF.2 k x z hxk (hget k x z hxk hz)
       refine ⟨h2.1,fun e0=>?_⟩
       have h3:=parts_get cx.2.2 hxk
       have hc:=h3.2 e0
       have hns:stB x=false:=by
        cases hst:stB x with
        | false=>rfl
        | true =>
         rw [star_head hst] at hc
         simp [comp,isB,isBI] at hc
       rw [h2.2.2 hns]
       exact hc
      ·refine ⟨?_,fun e=>by omega⟩
       rw [hL,List.getElem?_append_right (by omega)] at hz
       exact hmp z (mG hz)
     ·have:=cx.2.1
      cases r with
      | true =>
       have:¬ 12<xs.length+(lastP xs bs).1.length:=fun e=>h12 ⟨rfl,e⟩
       rw [hmr rfl] at hLl
       omega
      | false=>rw [hml rfl] at hLl;simp at hLl;omega
     ·have h1x:xs.length=1:=by omega
      have hr:=check_one hx h1x
      rw [hR,hr,Bool.true_and]
      refine (hlp hr).1 ?_
      rw [←hmr hr]
      omega
    refine ⟨?_,?_⟩
    ·unfold withinOk insideOk
     rw [hck,hx]
     simp only [BEq.rfl,Bool.true_and,Bool.and_eq_true]
     refine ⟨?_,ok_iff.2 fun k y x h1 h2=>(hF.2 k x y h2 (hget k x y h2 h1)).2.1⟩
     unfold lensIn
     cases r with
     | true =>
      rw [if_pos rfl,hLl,hR]
      simp only [Bool.true_and,Bool.and_eq_true,Bool.not_eq_true',decide_eq_false_iff_not,Bool.and_eq_false_iff,Bool.not_eq_false']
      refine ⟨by omega,?_⟩
      cases hq:(lastP xs bs).2 with
      | true=>exact .inl rfl
      | false =>
       right
       intro e
       have h0:m.length=0:=by omega
       rw [hmr rfl] at h0
       rw [(hlp rfl).1 h0] at hq
       cases hq
     | false =>
      rw [if_neg (by decide),hLl,hR,hml rfl]
      simp
    ·unfold bindB
     rw [bindI_eq _ _ (by omega)]
     rw [hL,hF.1]
     cases r with
     | true =>
      rw [if_pos rfl,List.drop_append_of_le_length (by omega),List.drop_eq_nil_of_le (by omega),List.nil_append,hmr rfl,hR,Bool.true_and]
      exact (hlast rfl).2.symm
     | false =>
      rw [if_neg (by decide),List.append_nil,List.take_of_length_le]
      rw [hl]
      unfold wildB
      simp
   ·rw [if_pos (by simpa using hb)] at h;cases h
  ·rw [if_pos hl] at h;cases h
 ·rw [if_pos hx] at h;exact absurd h hx
open Go.RowKit
open Pm
def Fil:List ByteArray→Bool→List ByteArray→List ByteArray→Prop
 | [],false,cs,l=>cs=[]∧l=[]
 | [],true,cs,l=>∃ c,cs=[c]∧l=spB c.data.toList∧∀ y∈l,comp y.data.toList=true
 | x::xs,r,cs,l=>if stB x=true then ∃ c cs' l',cs=c::cs'∧comp c.data.toList=true∧l=(c++tlB x)::l'∧Fil xs r cs' l' else ∃ l',l=x::l'∧Fil xs r cs l'
theorem Fil.star {x:ByteArray} {xs cs l:List ByteArray} {r:Bool} (hs:stB x=true):Fil (x::xs) r cs l↔∃ c cs' l',cs=c::cs'∧comp c.data.toList=true∧l=(c++tlB x)::l'∧Fil xs r cs' l':=by
 conv=>lhs;unfold Fil
 rw [if_pos hs]
theorem Fil.lit {x:ByteArray} {xs cs l:List ByteArray} {r:Bool} (hs:stB x=false):Fil (x::xs) r cs l↔∃ l',l=x::l'∧Fil xs r cs l':=by
 conv=>lhs;unfold Fil
 rw [if_neg (by rw [hs];decide)]
def fillC (xs:List ByteArray) (r:Bool) (cs:List ByteArray):List ByteArray:=flC stB tlB xs cs++if r=true then spB (lastC stB xs cs).data.toList else []
theorem fil_ok:∀ (xs:List ByteArray) (r:Bool) (cs l:List ByteArray),Fil xs r cs l↔fillOk stB xs r cs=true∧l=fillC xs r cs
 | [],false,cs,l=>by
  unfold Fil fillOk fillC wildB countB flC flOk
  cases cs<;>simp
 | [],true,cs,l=>by
  unfold Fil fillOk fillC wildB countB flC flOk lastC countB
  match cs with
  | []=>simp
  | [c] =>
   simp
   constructor
   ·rintro ⟨rfl,h⟩;exact ⟨h,rfl⟩
   ·rintro ⟨h,rfl⟩;exact ⟨rfl,h⟩
  | a::b::cs=>simp
 | x::xs,r,cs,l=>by
  by_cases hs:stB x=true
  ·rw [Fil.star hs]
   have hw:wildB stB (x::xs) r=wildB stB xs r+1:=by unfold wildB;rw [count_cons,if_pos hs];omega
   cases cs with
   | nil =>
    constructor
    ·rintro ⟨c,cs',l',h,_⟩;cases h
    ·rintro ⟨h,_⟩
     unfold fillOk at h
     rw [hw] at h
     simp at h
   | cons c cs =>
    have hk:fillOk stB (x::xs) r (c::cs)=(comp c.data.toList&&fillOk stB xs r cs):=by
     unfold fillOk
     rw [hw]
     have e1:flOk stB (x::xs) (c::cs)=(comp c.data.toList&&flOk stB xs cs):=by
      conv=>lhs;unfold flOk
      rw [if_pos hs]
      rfl
     have e2:lastC stB (x::xs) (c::cs)=lastC stB xs cs:=by
      unfold lastC
      rw [count_cons,if_pos hs,Nat.add_comm 1 (countB stB xs),List.drop_succ_cons]
     rw [e1,e2]
     simp only [List.length_cons]
     by_cases h1:cs.length=wildB stB xs r
     ·rw [decide_eq_true (show cs.length+1=wildB stB xs r+1 by omega),decide_eq_true h1]
      cases comp c.data.toList<;>rfl
     ·rw [decide_eq_false (show ¬ cs.length+1=wildB stB xs r+1 by omega),decide_eq_false h1]
      simp
    have hc:fillC (x::xs) r (c::cs)=(c++tlB x)::fillC xs r cs:=by
     unfold fillC
     have e1:flC stB tlB (x::xs) (c::cs)=(c++tlB x)::flC stB tlB xs cs:=by
      conv=>lhs;unfold flC
      rw [if_pos hs]
      rfl
     have e2:lastC stB (x::xs) (c::cs)=lastC stB xs cs:=by
      unfold lastC
      rw [count_cons,if_pos hs,Nat.add_comm 1 (countB stB xs),List.drop_succ_cons]
     rw [e1,e2]
     rfl
    rw [hk,hc,Bool.and_eq_true]
    constructor
    ·rintro ⟨c',cs',l',h,h1,rfl,h2⟩
     obtain ⟨rfl,rfl⟩:=List.cons.inj h
     have:=(fil_ok xs r cs l').1 h2
     exact ⟨⟨h1,this.1⟩,by rw [this.2]⟩
    ·rintro ⟨⟨h1,h2⟩,rfl⟩
     exact ⟨c,cs,fillC xs r cs,rfl,h1,rfl,(fil_ok xs r cs _).2 ⟨h2,rfl⟩⟩
  ·have hs':stB x=false:=by simpa using hs
   rw [Fil.lit hs']
   have hw:wildB stB (x::xs) r=wildB stB xs r:=by unfold wildB;rw [count_cons,if_neg hs];omega
   have e2:lastC stB (x::xs) cs=lastC stB xs cs:=by
    unfold lastC
    rw [count_cons,if_neg hs,Nat.zero_add]
   have hk:fillOk stB (x::xs) r cs=fillOk stB xs r cs:=by
    unfold fillOk
    rw [hw,e2]
    have e1:flOk stB (x::xs) cs=flOk stB xs cs:=by
     conv=>lhs;unfold flOk
     rw [if_neg hs]
    rw [e1]
   have hc:fillC (x::xs) r cs=x::fillC xs r cs:=by
    unfold fillC
    have e1:flC stB tlB (x::xs) cs=x::flC stB tlB xs cs:=by
     conv=>lhs;unfold flC
     rw [if_neg hs]
    rw [e1,e2]
    rfl
   rw [hk,hc]
   constructor
   ·rintro ⟨l',rfl,h2⟩
    have:=(fil_ok xs r cs l').1 h2
    exact ⟨this.1,by rw [this.2]⟩
   ·rintro ⟨h2,rfl⟩
    exact ⟨fillC xs r cs,rfl,(fil_ok xs r cs _).2 ⟨h2,rfl⟩⟩
theorem Fil.fn {xs cs l m:List ByteArray} {r:Bool} (h:Fil xs r cs l) (k:Fil xs r cs m):l=m :=
 ((fil_ok _ _ _ _).1 h).2.trans ((fil_ok _ _ _ _).1 k).2.symm
theorem app_cancelB {a b t:ByteArray} (h:a++t=b++t):a=b:=by
 have e:=congrArg (fun x:ByteArray=>x.data.toList) h
 simp only [app_data] at e
 have:=List.append_cancel_right e
 rw [←mkB_back a,this,mkB_back]
theorem spB_inj {a b:ByteArray} (h:spB a.data.toList=spB b.data.toList):a=b:=by
 unfold spB at h
 have e:sp a.data.toList=sp b.data.toList:=by
  have:=congrArg (fun l:List ByteArray=>l.map (·.data.toList)) h
  simp only [List.map_map] at this
  have e2:((fun x:ByteArray=>x.data.toList) ∘ mkB)=id:=by funext l;exact mkB_data l
  rw [e2,List.map_id,List.map_id] at this
  exact this
 have e3:=join_sp a.data.toList
 rw [e,join_sp] at e3
 rw [←mkB_back a,← e3,mkB_back]
theorem Fil.inj:∀ {xs cs ds l:List ByteArray} {r:Bool},Fil xs r cs l→Fil xs r ds l→cs=ds
 | [],cs,ds,l,false,h,k=>by rw [h.1,k.1]
 | [],cs,ds,l,true,h,k=>by
  obtain ⟨c,rfl,h1,_⟩:=h
  obtain ⟨d,rfl,k1,_⟩:=k
  rw [spB_inj (h1.symm.trans k1)]
 | x::xs,cs,ds,l,r,h,k=>by
  by_cases hs:stB x=true
  ·rw [Fil.star hs] at h k
   obtain ⟨c,cs',l',rfl,_,rfl,h3⟩:=h
   obtain ⟨d,ds',m',rfl,_,e,k3⟩:=k
   obtain ⟨e1,rfl⟩:=List.cons.inj e
   rw [app_cancelB e1,Fil.inj h3 k3]
  ·have hs':stB x=false:=by simpa using hs
   rw [Fil.lit hs'] at h k
   obtain ⟨l',rfl,h3⟩:=h
   obtain ⟨m',e,k3⟩:=k
   obtain ⟨_,rfl⟩:=List.cons.inj e
   exact Fil.inj h3 k3
theorem Fil.comps:∀ {xs cs l:List ByteArray} {r:Bool},Fil xs r cs l→(∀ x∈xs,partB x=true)→∀ y∈l,comp y.data.toList=true
 | [],cs,l,false,h,_=>by rw [h.2];intro y hy;cases hy
 | [],cs,l,true,h,_=>by obtain ⟨c,_,_,h⟩:=h;exact h
 | x::xs,cs,l,r,h,hp=>by
  by_cases hs:stB x=true
  ·rw [Fil.star hs] at h
   obtain ⟨c,cs',l',rfl,h2,rfl,h3⟩:=h
   have ih:=Fil.comps h3 (fun z hz=>hp z (by simp [hz]))
   intro y hy
   rcases List.mem_cons.1 hy with rfl|hy
   ·rw [app_data]
    exact comp_app h2 (star_tail (hp x (by simp)) hs)
   ·exact ih y hy
  ·have hs':stB x=false:=by simpa using hs
   rw [Fil.lit hs'] at h
   obtain ⟨l',rfl,h3⟩:=h
   have ih:=Fil.comps h3 (fun z hz=>hp z (by simp [hz]))
   intro y hy
   rcases List.mem_cons.1 hy with rfl|hy
   ·exact part_name (hp y (by simp)) hs'
   ·exact ih y hy
theorem Fil.len:∀ {xs cs l:List ByteArray} {r:Bool},Fil xs r cs l→xs.length≤l.length∧(r=true→xs.length<l.length)∧(r=false→xs.length=l.length)
 | [],cs,l,false,h=>by rw [h.2];exact ⟨Nat.le_refl _,fun h=>(by cases h),fun _=>rfl⟩
 | [],cs,l,true,h=>by
  obtain ⟨c,_,h2,_⟩:=h
  have:l≠[]:=by
   rw [h2]
   unfold spB
   intro e
   exact sp_ne _ (List.map_eq_nil_iff.1 e)
  have h0:=List.length_pos_iff.2 this
  exact ⟨by simp,fun _=>(by simpa using h0),fun h=>(by cases h)⟩
 | x::xs,cs,l,r,h=>by
  by_cases hs:stB x=true
  ·rw [Fil.star hs] at h
   obtain ⟨c,cs',l',rfl,h2,rfl,h3⟩:=h
   have ih:=Fil.len h3
   simp only [List.length_cons]
   exact ⟨by omega,fun e=>(by have:=ih.2.1 e;omega),fun e=>(by have:=ih.2.2 e;omega)⟩
  ·have hs':stB x=false:=by simpa using hs
   rw [Fil.lit hs'] at h
   obtain ⟨l',rfl,h3⟩:=h
   have ih:=Fil.len h3
   simp only [List.length_cons]
   exact ⟨by omega,fun e=>(by have:=ih.2.1 e;omega),fun e=>(by have:=ih.2.2 e;omega)⟩
theorem fil_two {xs cs l:List ByteArray} {r:Bool} (hn:checkP xs r=0) (h:Fil xs r cs l):2≤l.length:=by
 have hl:=h.len
 have cx:=check_zero hn
 rcases Nat.lt_or_ge 1 xs.length with h1|h1
 ·omega
 ·have:=hl.2.1 (check_one hn (by omega))
  omega
theorem fil_fill {xs cs l:List ByteArray} {r:Bool} (hn:checkP xs r=0) (h:Fil xs r cs l):fillE xs r cs=0∧fillT xs r cs=joinB l∧matchOk mpOk xs r (joinB l)=true∧capsB stB mpCap xs r (joinB l)=cs∧compsB (joinB l)=l:=by
 obtain ⟨h1,h2⟩:=(fil_ok _ _ _ _).1 h
 have he:=fill_e2 hn h1
 have hT:fillT xs r cs=joinB l:=by
  rw [he.2,h2]
  unfold fillL fillC
  by_cases hr:r=true
  ·rw [if_pos hr,if_pos hr,joinB_rest]
  ·rw [if_neg hr,if_neg hr]
 have hm:=fills_match he.1
 rw [hT] at hm
 have hl:=fil_two hn h
 refine ⟨he.1,hT,hm.1,hm.2,joinB_comps ?_ (h.comps (parts_all (check_zero hn).2.2))⟩
 intro e
 rw [e] at hl
 simp at hl
theorem fill_fil {xs cs:List ByteArray} {r:Bool} (h:fillE xs r cs=0):checkP xs r=0∧∃ l,Fil xs r cs l:=by
 unfold fillE at h
 by_cases hn:checkP xs r=0
 ·rw [if_pos hn] at h
  by_cases hk:fillOk stB xs r cs=true
  ·exact ⟨hn,_,(fil_ok _ _ _ _).2 ⟨hk,rfl⟩⟩
  ·rw [if_neg hk] at h;cases h
 ·rw [if_neg hn] at h;exact absurd h hn
theorem match_fil {xs:List ByteArray} {r:Bool} {s:ByteArray} (h:matchOk mpOk xs r s=true):checkP xs r=0∧Fil xs r (capsB stB mpCap xs r s) (compsB s)∧joinB (compsB s)=s:=by
 have hm:=match_fills h
 obtain ⟨hn,l,hl⟩:=fill_fil hm.1
 have hf:=fil_fill hn hl
 have e:joinB l=s:=by rw [←hf.2.1,hm.2]
 have e2:compsB s=l:=by rw [←e];exact hf.2.2.2.2
 exact ⟨hn,by rw [e2];exact hl,by rw [e2];exact e⟩
theorem flOk_count:∀ (xs cs:List ByteArray),countB stB xs≤cs.length→flOk stB xs cs=(cs.take (countB stB xs)).all (fun c=>comp c.data.toList)
 | [],cs,_=>by simp [flOk,countB]
 | x::xs,cs,h=>by
  rw [count_cons] at h ⊢
  unfold flOk
  by_cases hs:stB x=true
  ·rw [if_pos hs] at h ⊢
   rw [if_pos hs]
   cases cs with
   | nil=>simp at h
   | cons c cs =>
    rw [Nat.add_comm 1,List.take_succ_cons,List.all_cons,List.headD_cons,List.tail_cons,flOk_count xs cs (by simp at h;omega)]
  ·rw [if_neg hs] at h ⊢
   rw [if_neg hs,Nat.zero_add,flOk_count xs cs (by omega)]
theorem Fil.kinds {xs ys cs l:List ByteArray} {r:Bool} (h:Fil xs r cs l) (hc:countB stB xs=countB stB ys):∃ m,Fil ys r cs m:=by
 obtain ⟨h1,_⟩:=(fil_ok _ _ _ _).1 h
 refine ⟨_,(fil_ok _ _ _ _).2 ⟨?_,rfl⟩⟩
 unfold fillOk at h1 ⊢
 have hw:wildB stB ys r=wildB stB xs r:=by unfold wildB;rw [hc]
 have hl:lastC stB ys cs=lastC stB xs cs:=by unfold lastC;rw [hc]
 rw [Bool.and_eq_true,Bool.and_eq_true,decide_eq_true_iff] at h1
 have hle:countB stB xs≤cs.length:=by rw [h1.1];unfold wildB;omega
 rw [hw,hl,flOk_count ys cs (by omega),← hc,← flOk_count xs cs hle,h1.2.1,h1.2.2,decide_eq_true h1.1]
 rfl
def Sb:List ByteArray→Bool→List (List ByteArray×Bool)→List ByteArray→Bool→Prop
 | [],false,bs,ys,t=>bs=[]∧ys=[]∧t=false
 | [],true,bs,ys,t=>bs=[(ys,t)]∧(ys=[]→t=true)∧∀ z∈ys,partB z=true
 | x::xs,r,bs,ys,t=>if stB x=true then ∃ z bs' ys',bs=([z],false)::bs'∧partB z=true∧ys=(z++tlB x)::ys'∧Sb xs r bs' ys' t else ∃ ys',ys=x::ys'∧Sb xs r bs ys' t
theorem Sb.star {x:ByteArray} {xs ys:List ByteArray} {r t:Bool} {bs:List (List ByteArray×Bool)} (hs:stB x=true):Sb (x::xs) r bs ys t↔∃ z bs' ys',bs=([z],false)::bs'∧partB z=true∧ys=(z++tlB x)::ys'∧Sb xs r bs' ys' t:=by
 conv=>lhs;unfold Sb
 rw [if_pos hs]
theorem Sb.lit {x:ByteArray} {xs ys:List ByteArray} {r t:Bool} {bs:List (List ByteArray×Bool)} (hs:stB x=false):Sb (x::xs) r bs ys t↔∃ ys',ys=x::ys'∧Sb xs r bs ys' t:=by
 conv=>lhs;unfold Sb
 rw [if_neg (by rw [hs];decide)]
def SFil:List (List ByteArray×Bool)→List ByteArray→List ByteArray→Prop
 | [],cs,ds=>cs=[]∧ds=[]
 | p::bs,cs,ds=>∃ c1 c2 l ds',cs=c1++c2∧Fil p.1 p.2 c1 l∧ds=mkB (Lib.join (datj l) [47])::ds'∧SFil bs c2 ds'
theorem join_single (x:ByteArray):mkB (Lib.join (datj [x]) [47])=x:=by
 show mkB (Lib.join [x.data.toList] [47])=x
 rw [Lib.join_one,mkB_back]
theorem fil_one_star {z:ByteArray} {cs l:List ByteArray} (hs:stB z=true):Fil [z] false cs l↔∃ c,cs=[c]∧comp c.data.toList=true∧l=[c++tlB z]:=by
 rw [Fil.star hs]
 constructor
 ·rintro ⟨c,cs',l',rfl,h1,rfl,h2,h3⟩
  subst h2 h3
  exact ⟨c,rfl,h1,rfl⟩
 ·rintro ⟨c,rfl,h1,rfl⟩
  exact ⟨c,[],[],rfl,h1,rfl,rfl,rfl⟩
theorem fil_one_lit {z:ByteArray} {cs l:List ByteArray} (hs:stB z=false):Fil [z] false cs l↔cs=[]∧l=[z]:=by
 rw [Fil.lit hs]
 constructor
 ·rintro ⟨l',rfl,h2,h3⟩
  subst h2 h3
  exact ⟨rfl,rfl⟩
 ·rintro ⟨rfl,rfl⟩
  exact ⟨[],rfl,rfl,rfl⟩
theorem st_app {z t:ByteArray} (h:0<z.size):stB (z++t)=stB z:=by
 cases he:z.data.toList with
 | nil=>exact absurd he (data_ne h)
 | cons c a =>
  have e1:z=mkB (c::a):=by rw [←he,mkB_back]
  have e2:z++t=mkB (c::(a++t.data.toList)):=by rw [e1,mkB_app];rfl
  rw [e2,stB_mk,e1,stB_mk]
theorem tl_app2 {z t:ByteArray} (h:0<z.size):tlB (z++t)=tlB z++t:=by
 have e2:z++t=mkB (z.data.toList++t.data.toList):=by rw [←app_data,mkB_back]
 have h1:=tl_app (y:=z) (b:=t.data.toList) h
 rw [←e2] at h1
 have h2:tlB z++t=mkB ((tlB z).data.toList++t.data.toList):=by rw [←app_data,mkB_back]
 rw [h2,← h1,mkB_back]
theorem app_assoc (a b c:ByteArray):(a++b)++c=a++(b++c):=by
 rw [←mkB_back ((a++b)++c),← mkB_back (a++(b++c)),app_data,app_data,app_data,app_data,List.append_assoc]
theorem Sb.fil:∀ {xs ys:List ByteArray} {r t:Bool} {bs:List (List ByteArray×Bool)},Sb xs r bs ys t→(∀ x∈xs,partB x=true)→∀ cs l,Fil ys t cs l↔∃ ds,SFil bs cs ds∧Fil xs r ds l
 | [],ys,false,t,bs,h,_,cs,l=>by
  obtain ⟨rfl,rfl,rfl⟩:=h
  constructor
  ·rintro ⟨rfl,rfl⟩;exact ⟨[],⟨rfl,rfl⟩,rfl,rfl⟩
  ·rintro ⟨ds,⟨rfl,rfl⟩,_,rfl⟩;exact ⟨rfl,rfl⟩
 | [],ys,true,t,bs,h,_,cs,l=>by
  obtain ⟨rfl,h0,hp⟩:=h
  have hne:∀ l,Fil ys t cs l→l≠[]:=fun l hl e=>by
   have:=hl.len
   rw [e] at this
   have h1:ys=[]:=List.eq_nil_of_length_eq_zero (by simpa using this.1)
   have:=this.2.1 (h0 h1)
   simp at this
  constructor
  ·intro h
   refine ⟨[mkB (Lib.join (datj l) [47])],⟨cs,[],l,[],by simp,h,rfl,rfl,rfl⟩,_,rfl,?_,h.comps hp⟩
   rw [mkB_data]
   exact (spB_join (hne l h) (h.comps hp)).symm
  ·rintro ⟨ds,⟨c1,c2,l2,ds',rfl,h2,rfl,h3⟩,c,e,h4,h5⟩
   obtain ⟨rfl,rfl⟩:=h3
   rw [List.append_nil] at hne ⊢
   obtain ⟨rfl,_⟩:=List.cons.inj e
   rw [mkB_data,spB_join (hne l2 h2) (h2.comps hp)] at h4
   rw [h4]
   exact h2
 | x::xs,ys,r,t,bs,h,hp,cs,l=>by
  by_cases hs:stB x=true
  ·rw [Sb.star hs] at h
   obtain ⟨z,bs',ys',rfl,hz,rfl,h2⟩:=h
   have ih:=Sb.fil h2 (fun z hz=>hp z (by simp [hz]))
   have hz0:=part_pos hz
   have ht:=star_tail (hp x (by simp)) hs
   by_cases hsz:stB z=true
   ·have e1:stB (z++tlB x)=true:=by rw [st_app hz0];exact hsz
    rw [Fil.star e1]
    constructor
    ·rintro ⟨c,cs',l',rfl,h3,rfl,h4⟩
     obtain ⟨ds,h5,h6⟩:=(ih cs' l').1 h4
     refine ⟨(c++tlB z)::ds,⟨[c],cs',[c++tlB z],ds,rfl,(fil_one_star hsz).2 ⟨c,rfl,h3,rfl⟩,by rw [join_single],h5⟩,(Fil.star hs).2 ⟨_,ds,l',rfl,?_,?_,h6⟩⟩
     ·rw [app_data]
      exact comp_app h3 (star_tail hz hsz)
     ·rw [tl_app2 hz0,app_assoc]
    ·rintro ⟨ds,⟨c1,c2,l2,ds',rfl,h3,rfl,h4⟩,h5⟩
     obtain ⟨c,rfl,h6,rfl⟩:=(fil_one_star hsz).1 h3
     rw [join_single] at h5
     obtain ⟨c',cs',l',e,h7,rfl,h8⟩:=(Fil.star hs).1 h5
     obtain ⟨rfl,rfl⟩:=List.cons.inj e
     exact ⟨c,c2,l',rfl,h6,by rw [tl_app2 hz0,app_assoc],(ih c2 l').2 ⟨ds',h4,h8⟩⟩
   ·have hsz':stB z=false:=by simpa using hsz
    have e1:stB (z++tlB x)=false:=by rw [st_app hz0];exact hsz'
    rw [Fil.lit e1]
    constructor
    ·rintro ⟨l',rfl,h4⟩
     obtain ⟨ds,h5,h6⟩:=(ih cs l').1 h4
     exact ⟨z::ds,⟨[],cs,[z],ds,rfl,(fil_one_lit hsz').2 ⟨rfl,rfl⟩,by rw [join_single],h5⟩,(Fil.star hs).2 ⟨_,ds,l',rfl,part_name hz hsz',rfl,h6⟩⟩
    ·rintro ⟨ds,⟨c1,c2,l2,ds',rfl,h3,rfl,h4⟩,h5⟩
     obtain ⟨rfl,rfl⟩:=(fil_one_lit hsz').1 h3
     rw [join_single] at h5
     obtain ⟨c',cs',l',e,h7,rfl,h8⟩:=(Fil.star hs).1 h5
     obtain ⟨rfl,rfl⟩:=List.cons.inj e
     exact ⟨l',rfl,(ih c2 l').2 ⟨ds',h4,h8⟩⟩
  ·have hs':stB x=false:=by simpa using hs
   rw [Sb.lit hs'] at h
   obtain ⟨ys',rfl,h2⟩:=h
   have ih:=Sb.fil h2 (fun z hz=>hp z (by simp [hz]))
   rw [Fil.lit hs']
   constructor
   ·rintro ⟨l',rfl,h3⟩
    obtain ⟨ds,h4,h5⟩:=(ih cs l').1 h3
    exact ⟨ds,h4,(Fil.lit hs').2 ⟨l',rfl,h5⟩⟩
   ·rintro ⟨ds,h4,h5⟩
    obtain ⟨l',rfl,h6⟩:=(Fil.lit hs').1 h5
    exact ⟨l',rfl,(ih cs l').2 ⟨ds,h4,h6⟩⟩
theorem sb_of:∀ (xs:List ByteArray) (r:Bool) (bs:List (List ByteArray×Bool)),bs.length=wildB stB xs r→BO (countB stB xs) bs bs.length →
 Sb xs r bs (flC stB tlB xs (bs.map hdP)++if r=true then (lastP xs bs).1 else []) (r&&(lastP xs bs).2)
 | [],false,bs,hl,ho=>by
  have:bs=[]:=List.eq_nil_of_length_eq_zero (by rw [hl];rfl)
  subst this
  exact ⟨rfl,rfl,rfl⟩
 | [],true,bs,hl,ho=>by
  match bs,hl,ho with
  | [p],hl,ho =>
   have h1:=ho 0 p (by simp) rfl
   rw [decide_eq_true (by simp [countB])] at h1
   unfold bindOk at h1
   split at h1
   ·cases h1
   ·rename_i hn
    refine ⟨?_,fun e=>?_,List.all_eq_true.1 h1⟩
    ·simp [flC,lastP,countB]
    ·simp [flC,lastP,countB] at e ⊢
     cases hq:p.2 with
     | true=>rfl
     | false=>exact absurd (.inr ⟨by rw [e];rfl,hq⟩) hn
  | [],hl,ho=>simp [wildB,countB] at hl
  | a::b::l,hl,ho=>simp [wildB,countB] at hl
 | x::xs,r,bs,hl,ho=>by
  by_cases hs:stB x=true
  ·have hw:wildB stB (x::xs) r=wildB stB xs r+1:=by unfold wildB;rw [count_cons,if_pos hs];omega
   cases bs with
   | nil=>rw [hw] at hl;simp at hl
   | cons p bs =>
    have hcc:countB stB (x::xs)=countB stB xs+1:=by rw [count_cons,if_pos hs];omega
    obtain ⟨z,rfl,hz⟩:=ho.one (j:=0) (by omega) rfl
    have hl':bs.length=wildB stB xs r:=by rw [hw] at hl;simpa using hl
    have ih:=sb_of xs r bs hl' (fun i q hi hq=>by
     have:=ho (i+1) q (by simpa using hi) (by simpa using hq)
     rw [hcc] at this
     simpa using this)
    have e1:flC stB tlB (x::xs) ((([z],false)::bs).map hdP)=(z++tlB x)::flC stB tlB xs (bs.map hdP):=by
     conv=>lhs;unfold flC
     rw [if_pos hs]
     rfl
    have e2:lastP (x::xs) (([z],false)::bs)=lastP xs bs:=by
     unfold lastP
     rw [hcc]
     simp
    rw [e1,e2,List.cons_append]
    exact (Sb.star hs).2 ⟨z,bs,_,rfl,hz,rfl,ih⟩
  ·have hs':stB x=false:=by simpa using hs
   have hcc:countB stB (x::xs)=countB stB xs:=by rw [count_cons,if_neg hs];omega
   have hw:wildB stB (x::xs) r=wildB stB xs r:=by unfold wildB;rw [hcc]
   have ih:=sb_of xs r bs (by rw [←hw];exact hl) (by rw [←hcc];exact ho)
   have e1:flC stB tlB (x::xs) (bs.map hdP)=x::flC stB tlB xs (bs.map hdP):=by
    conv=>lhs;unfold flC
    rw [if_neg hs]
   have e2:lastP (x::xs) bs=lastP xs bs:=by unfold lastP;rw [hcc]
   rw [e1,e2,List.cons_append]
   exact (Sb.lit hs').2 ⟨_,rfl,ih⟩
theorem sub_zero {xs:List ByteArray} {r:Bool} {bs:List (List ByteArray×Bool)} (h:subE xs r bs=0):checkP xs r=0∧bs.length=wildB stB xs r∧BO (countB stB xs) bs bs.length∧¬ (r=true∧12<xs.length+(lastP xs bs).1.length):=by
 unfold subE at h
 by_cases hx:checkP xs r=0
 ·rw [if_neg (by simp [hx])] at h
  by_cases hl:bs.length=wildB stB xs r
  ·rw [if_neg (by simp [hl])] at h
   by_cases hb:bsOk (countB stB xs) bs=true
   ·rw [if_neg (by simp [hb])] at h
    exact ⟨hx,hl,bsOk_iff.1 hb,fun e=>by rw [if_pos e] at h;cases h⟩
   ·rw [if_pos (by simpa using hb)] at h;cases h
  ·rw [if_pos hl] at h;cases h
 ·rw [if_pos hx] at h;exact absurd h hx
theorem sub_sb {xs:List ByteArray} {r:Bool} {bs:List (List ByteArray×Bool)} (h:subE xs r bs=0):Sb xs r bs (subL xs r bs) (subR xs r bs):=by
 obtain ⟨h1,h2,h3,_⟩:=sub_zero h
 have:=sb_of xs r bs h2 h3
 unfold subL subR
 rw [if_pos h,if_pos h]
 exact this
end Go.Proofs.YtelkmeiepliecaaGreatDoor
