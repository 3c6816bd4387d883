/-
  Part 43 of the proof.
-/
import Derived.Test.YtelkmeiepliecaaGreatDoorU41
set_option linter.unusedSimpArgs false
set_option linter.unusedVariables false
set_option maxHeartbeats 16000000
namespace Go.Proofs.YtelkmeiepliecaaGreatDoor
open Pm
theorem szS_ln {l:List St} (hz:SzS l):∀ s∈l,s.1.size≤100∧∀ p∈s.2.2,szN 100 p.2.1∧szN 100 p.2.2:=fun s hs =>
 ⟨(hz s hs).1.1,fun p hp=>⟨szN_up ((hz s hs).2.2 p hp).1 (by omega),szN_up ((hz s hs).2.2 p hp).2 (by omega)⟩⟩
theorem vz_of {l:List St} (hg:GoodS l) (hz:SzS l) {n i:Nat} (hn:n≤16) {ps:List Pc} (h:pcsF l n i=some ps):∀ q∈ps,VzOk q:=fun q hq=>by
 have hk:=(pcs_ok hg n i ps h).ok q hq
 obtain ⟨s1,s2,s3⟩:=pcs_lz (m:=100) (by omega) (szS_ln hz) h q hq
 have hM:100 * (n+1)≤1700:=by omega
 refine ⟨hk.rl,hk.rg,⟨szN_up s1.1 (by omega),fun x hx=>szN_up (s1.2 x hx) (by omega)⟩,szN_up s2 (by omega),szN_up s3 (by omega),fun p hp=>?_⟩
 unfold nrsR at hp
 obtain ⟨x,hx,rfl⟩:=List.mem_map.1 hp
 obtain ⟨hx,ho⟩:=List.mem_filter.1 hx
 exact szP_of (nrR_ok ho).2.2 (nw_sz s2 s3 (s1.2 x hx)).2 (by omega)
open Pm
open Go.RowKit Go.WideShapes
def vewF (l:List St) (name:ByteArray):Option (List Pc)×Int :=
 if findE l name=0 then (match idxS l name with
  | some i=>(match vwF l l.length i with
   | some ps=>(some ps,0)
   | none=>(none,80))
  | none=>(none,86)) else (none,findE l name)
def RetVi (w:World) (v:Option (List Pc)×Int) (e:Ending) (w':World):Prop :=
 (∀ ps,v.1=some ps→∃ B d,e=.returned (.tuple #[.slice B ps.length d,.int .i64 0])∧SV elE w' kN B d (ps.map entF)∧Below w.heap.size w w') ∧
 (v.1=none→e=.returned (.tuple #[.slice none 0 0,.int .i64 v.2])∧Below w.heap.size w w')
theorem RetVi.ok {w w':World} {v:Option (List Pc)×Int} {ps:List Pc} {e:Ending} {B:Option Addr} {d:Nat} (hv:v=(some ps,0)) (he:e=.returned (.tuple #[.slice B ps.length d,.int .i64 0])) (h2:SV elE w' kN B d (ps.map entF)) (hb:Below w.heap.size w w'):RetVi w v e w':=by
 subst hv
 exact ⟨fun qs h=>(by cases h;exact ⟨B,d,he,h2,hb⟩),fun h=>(by cases h)⟩
theorem RetVi.bad {w w':World} {v:Option (List Pc)×Int} {k:Int} {e:Ending} (hv:v=(none,k)) (he:e=.returned (.tuple #[.slice none 0 0,.int .i64 k])) (hb:Below w.heap.size w w'):RetVi w v e w':=by
 subst hv
 exact ⟨fun qs h=>(by cases h),fun _=>⟨he,hb⟩⟩
set_option maxRecDepth 100000 in
theorem View_any (A:Option Addr) (c0:Nat) (l:List St) (name:ByteArray) (w:World) (h:STR w A c0 l) (hl:l.length≤100) (hz:SzS l) (hm:ML w) (hn:name.size≤9223372036854775807)
 (hv:GoodS l→∀ i ps,pcsF l l.length i=some ps→ps.length≤32∧∀ q∈ps,VzOk q)
 (hpc:GoodS l→∀ g m i W,FO W g m A c0 l→i<l.length→ML W→Calls Tryz.prog 52 #[.pointer (some ⟨g,0,none⟩),.int .i64 i] W (RetPc W (pcsF l l.length i))) :
 Calls Tryz.prog 8 #[.slice A l.length c0,.string name] w (RetVi w (vewF l name)):=by
 have HFD:=lh (find_any A c0 l name w h hl hz hm hn)
 have HM:=lh hm
 by_cases hf:findE l name=0
 ·have hg:=good_of (findE_zero hf)
  obtain ⟨i,hi⟩:∃ i,idxS l name=some i:=by
   cases hx:idxS l name with
   | some i=>exact ⟨i,rfl⟩
   | none =>
    unfold findE at hf
    rw [if_pos (findE_zero hf),hx] at hf
    cases hf
  have HFD2:=lh (HFD.out.mono fun _ _ k=>k.1 hf)
  have HVW:=lh (fun g m W (hF:FO W g m A c0 l) (hM:ML W)=>view_any g m A c0 l l.length i W hM (hv hg i) (fun W2 hb=>hpc hg g m i W2 (hF.below hb) (idxS_lt hi) (hM.below hb)))
  have HI:=lh hi
  cases hvw:vwF l l.length i with
  | none =>
   have HE:Hid (vewF l name=(none,80)):=lh (by unfold vewF;rw [if_pos hf,hi];dsimp only;rw [hvw])
   have HVW2:=lh (fun g m W hF hM=>(HVW.out g m W hF hM).mono fun _ _ k=>k.2 hvw)
   clear HFD HVW h hz hm hf hg hi hv hpc hvw
   go_enter Tryz.func8,Tryz.ntmps8
   go_wp2_with (first
    | (go_at_call 19;refine HFD2.out.mono ?_;rintro e w1 ⟨g,m,i2,hi2,rfl,hfo,hb1⟩;(obtain rfl:i2=i:=by rw [HI.out] at hi2;cases hi2;rfl);have HB1:=lh hb1;have HF1:=lh hfo;clear hb1 hfo hi2)
    | (go_at_call 21;refine (HVW2.out _ _ _ HF1.out (HM.out.below HB1.out)).mono ?_;rintro e w3 ⟨rfl,hb3⟩;have HB3:=lh (go3 HB1.out hb3);clear hb3))
   all_goals go_ret2
   all_goals exact RetVi.bad HE.out rfl HB3.out
  | some ps =>
   have HE:Hid (vewF l name=(some ps,0)):=lh (by unfold vewF;rw [if_pos hf,hi];dsimp only;rw [hvw])
   have HVW2:=lh (fun g m W hF hM=>(HVW.out g m W hF hM).mono fun _ _ k=>k.1 ps hvw)
   clear HFD HVW h hz hm hf hg hi hv hpc hvw
   go_enter Tryz.func8,Tryz.ntmps8
   go_wp2_with (first
    | (go_at_call 19;refine HFD2.out.mono ?_;rintro e w1 ⟨g,m,i2,hi2,rfl,hfo,hb1⟩;(obtain rfl:i2=i:=by rw [HI.out] at hi2;cases hi2;rfl);have HB1:=lh hb1;have HF1:=lh hfo;clear hb1 hfo hi2)
    | (go_at_call 21;refine (HVW2.out _ _ _ HF1.out (HM.out.below HB1.out)).mono ?_;rintro e w3 ⟨A3,c3,B3,d3,rfl,-,hsv,hb3⟩;have HB3:=lh (go3 HB1.out hb3);have HS3:=lh hsv;clear hb3 hsv))
   all_goals go_ret2
   all_goals exact RetVi.ok HE.out rfl HS3.out HB3.out
 ·have HFD2:=lh (HFD.out.mono fun _ _ k=>k.2 hf)
  have HE:Hid (vewF l name=(none,findE l name)):=lh (if_neg hf)
  have hfb:(findE l name != 0)=true:=by simpa using hf
  clear HFD h hz hm hf hv hpc
  generalize findE l name=E at *
  go_enter Tryz.func8,Tryz.ntmps8
  go_wp2_with (first
   | (go_at_call 19;refine HFD2.out.mono ?_;rintro e w1 ⟨p,rfl,hb1⟩;have HB1:=lh hb1;clear hb1))
  all_goals go_ret2
  all_goals exact RetVi.bad HE.out rfl HB1.out
open Pm
open Go.RowKit Go.WideShapes
def btE (q:Pc) (name:ByteArray):En:=((entF q).1,stoP q.1.1 name,(entF q).2.2)
theorem btw_snoc {name:ByteArray} {ps:List Pc} {j:Nat} {q:Pc} (h:ps[j]? = some q):btwF name (ps.take (j+1))=btwF name (ps.take j)++(if q.2.1=1 then [btE q name] else []):=by
 unfold btwF
 rw [List.take_add_one,h]
 simp only [Option.toList_some,List.filter_append,List.map_append]
 congr 1
 by_cases h1:q.2.1=1
 ·rw [if_pos h1,List.filter_cons_of_pos (by simpa using h1)]
  rfl
 ·rw [if_neg h1,List.filter_cons_of_neg (by simpa using h1)]
  rfl
theorem btw_len {name:ByteArray} {ps:List Pc}:(btwF name ps).length≤ps.length:=by
 unfold btwF
 rw [List.length_map]
 exact List.length_filter_le _ _
theorem ch_set2' {w:World} {g:Nat} (hn:NSB w g) (x y:Value) (hx:nsV x):∀ K:Nat→Prop,K g→Ch K w ((w.setCell ⟨g,2,none⟩ x).setCell ⟨g,3,none⟩ y):=fun K hk =>
 (Ch.set (p:=⟨g,2,none⟩) hk hn x).trans (Ch.set (p:=⟨g,3,none⟩) hk (hn.set 2 hx) y)
def betF (l:List St) (name:ByteArray):Option (List En)×Int :=
 if findE l name=0 then (match idxS l name with
  | some i=>(match l[i]? with
   | some s=>if s.2.1.size=0 then (none,87) else (match vwF l l.length i with
    | some ps=>(some (btwF s.2.1 ps),0)
    | none=>(none,80))
   | none=>(none,0))
  | none=>(none,86)) else (none,findE l name)
def RetBw (w:World) (v:Option (List En)×Int) (e:Ending) (w':World):Prop :=
 (∀ es,v.1=some es→∃ B d,e=.returned (.tuple #[.slice B es.length d,.int .i64 0])∧SV elE w' kN B d es∧Below w.heap.size w w') ∧
 (v.1=none→e=.returned (.tuple #[.slice none 0 0,.int .i64 v.2])∧Below w.heap.size w w')
theorem RetBw.ok {w w':World} {v:Option (List En)×Int} {es:List En} {e:Ending} {B:Option Addr} {d:Nat} (hv:v=(some es,0)) (he:e=.returned (.tuple #[.slice B es.length d,.int .i64 0])) (h2:SV elE w' kN B d es) (hb:Below w.heap.size w w'):RetBw w v e w':=by
 subst hv
 exact ⟨fun qs h=>(by cases h;exact ⟨B,d,he,h2,hb⟩),fun h=>(by cases h)⟩
theorem RetBw.bad {w w':World} {v:Option (List En)×Int} {k:Int} {e:Ending} (hv:v=(none,k)) (he:e=.returned (.tuple #[.slice none 0 0,.int .i64 k])) (hb:Below w.heap.size w w'):RetBw w v e w':=by
 subst hv
 exact ⟨fun qs h=>(by cases h),fun _=>⟨he,hb⟩⟩
set_option maxRecDepth 100000 in
theorem between_any (A:Option Addr) (c0:Nat) (l:List St) (name:ByteArray) (w:World) (h:STR w A c0 l) (hl:l.length≤100) (hz:SzS l) (hm:ML w) (hn:name.size≤9223372036854775807)
 (hv:GoodS l→∀ i ps,pcsF l l.length i=some ps→ps.length≤32∧∀ q∈ps,VzOk q)
 (hpc:GoodS l→∀ g m A i W,FO W g m A c0 l→i<l.length→ML W→Calls Tryz.prog 52 #[.pointer (some ⟨g,0,none⟩),.int .i64 i] W (RetPc W (pcsF l l.length i))) :
 Calls Tryz.prog 9 #[.slice A l.length c0,.string name] w (RetBw w (betF l name)):=by
 have HFD:=lh (find_any A c0 l name w h hl hz hm hn)
 have HM:=lh hm
 by_cases hf:findE l name=0
 ·have hg:=good_of (findE_zero hf)
  obtain ⟨i,hi⟩:∃ i,idxS l name=some i:=by
   cases hx:idxS l name with
   | some i=>exact ⟨i,rfl⟩
   | none =>
    unfold findE at hf
    rw [if_pos (findE_zero hf),hx] at hf
    cases hf
  have hil:=idxS_lt hi
  obtain ⟨s,hs⟩:∃ s,l[i]? = some s:=⟨_,gE hil⟩
  have HFD2:=lh (HFD.out.mono fun _ _ k=>k.1 hf)
  have HI:=lh hi
  have HS:=lh hs
  have HBE:Hid (betF l name=if s.2.1.size=0 then ((none,87):Option (List En)×Int) else (match vwF l l.length i with
   | some ps=>(some (btwF s.2.1 ps),0)
   | none=>(none,80))):=lh (by unfold betF;rw [if_pos hf,hi];dsimp only;rw [hs])
  have hil2:i<l.length:=hil
  have hlc:=h.1
  have hlc2:=h.2.1
  by_cases h0:s.2.1.size=0
  ·have HE:Hid (betF l name=(none,87)):=lh (by rw [HBE.out,if_pos h0])
   have he:s.2.1.toList.isEmpty=true:=by rw [empty_iff];simpa using h0
   clear HFD h hz hm hf hg hi hv hpc HBE hs
   go_enter Tryz.func9,Tryz.ntmps9
   go_wp2_with (first
    | (go_at_call 19;refine HFD2.out.mono ?_;rintro e w1 ⟨g,m,i2,hi2,rfl,hfo,hb1⟩;(obtain rfl:i2=i:=by rw [HI.out] at hi2;cases hi2;rfl);have HB1:=lh hb1;have HF1:=lh hfo;obtain ⟨y0,y1⟩:=hfo.1.c2;have hgw:=hfo.1.2.2;obtain ⟨b,o,P,np,rfl,hbw,x0,x1,x2,hsv⟩:=hfo.2.1.at_ HS.out;clear hb1 hfo hi2 hsv))
   all_goals go_ret2
   all_goals exact RetBw.bad HE.out rfl HB1.out
  ·have he:s.2.1.toList.isEmpty=false:=by rw [empty_iff];simpa using h0
   have HVW:=lh (fun g m W A (hF:FO W g m A c0 l) (hM:ML W)=>view_any g m A c0 l l.length i W hM (hv hg i) (fun W2 hb=>hpc hg g m A i W2 (hF.below hb) hil (hM.below hb)))
   cases hvw:vwF l l.length i with
   | none =>
    have HE:Hid (betF l name=(none,80)):=lh (by rw [HBE.out,if_neg h0,hvw])
    have HVW2:=lh (fun g m W A hF hM=>(HVW.out g m W A hF hM).mono fun _ _ k=>k.2 hvw)
    clear HFD HVW h hz hm hf hg hi hv hpc hvw hs HBE
    go_enter Tryz.func9,Tryz.ntmps9
    go_wp2_with (first
     | (go_at_call 19;refine HFD2.out.mono ?_;rintro e w1 ⟨g,m,i2,hi2,rfl,hfo,hb1⟩;(obtain rfl:i2=i:=by rw [HI.out] at hi2;cases hi2;rfl);have HB1:=lh hb1;have HF1:=lh hfo;obtain ⟨y0,y1⟩:=hfo.1.c2;have hgw:=hfo.1.2.2;obtain ⟨b,o,P,np,rfl,hbw,x0,x1,x2,hsv⟩:=hfo.2.1.at_ HS.out;clear hb1 hfo hi2 hsv)
     | (go_at_call 21;refine (HVW2.out _ _ _ _ HF1.out (HM.out.below HB1.out)).mono ?_;rintro e w3 ⟨rfl,hb3⟩;have HB3:=lh (go3 HB1.out hb3);clear hb3))
    all_goals go_ret2
    all_goals exact RetBw.bad HE.out rfl HB3.out
   | some ps =>
    have HE:Hid (betF l name=(some (btwF s.2.1 ps),0)):=lh (by rw [HBE.out,if_neg h0,hvw])
    have HVW2:=lh (fun g m W A hF hM=>(HVW.out g m W A hF hM).mono fun _ _ k=>k.1 ps hvw)
    have hvw0:=hvw
    clear HVW hvw hs HBE
    have HZ:=lh (hv hg i ps (by
     unfold vwF at hvw0
     cases hpc0:pcsF l l.length i with
     | none=>rw [hpc0] at hvw0;cases hvw0
     | some qs =>
      rw [hpc0] at hvw0
      dsimp only at hvw0
      split at hvw0
      ·cases hvw0
      ·cases hvw0;rfl))
    clear HFD h hz hm hf hg hi hv hpc hvw0
    obtain ⟨nm,hnm⟩:∃ nm,Hid (s.2.1=nm):=⟨_,lh rfl⟩
    rw [hnm.out] at HE
    go_enter Tryz.func9,Tryz.ntmps9
    go_wp2_with (first
     | (go_at_call 19;refine HFD2.out.mono ?_;rintro e w1 ⟨g,m,i2,hi2,rfl,hfo,hb1⟩;(obtain rfl:i2=i:=by rw [HI.out] at hi2;cases hi2;rfl);have HB1:=lh hb1;have HF1:=lh hfo;obtain ⟨y0,y1⟩:=hfo.1.c2;have hgw:=hfo.1.2.2;obtain ⟨b,o,P,np,rfl,hbw,x0,x1,x2,hsv⟩:=hfo.2.1.at_ HS.out;clear hb1 hfo hi2 hsv)
     | (go_at_call 21;refine (HVW2.out _ _ _ _ HF1.out (HM.out.below HB1.out)).mono ?_;rintro e w3 ⟨A3,c3,B3,d3,rfl,hsp,hse,hb3⟩;have HB3:=lh (go3 HB1.out hb3);have HSP:=lh hsp;have HSE:=lh hse;have a1:=hsp.lenc;have a2:=hsp.capc;have a3:=hse.lenc;have a4:=hse.capc;rw [List.length_map] at a3;clear hb3 hsp hse))
    rw [hnm.out]
    clear x0 x1 x2 y0 y1 hbw hgw HF1 HVW2 HFD2 hnm he
    have h32:=HZ.out.1
    go_loopw [12,48] (fun s12 s48 wr=>∃ (j:Nat) (A9:Option Addr) (c9:Nat),j≤ps.length∧s48=.int .i64 j∧s12=.slice A9 (btwF nm (ps.take j)).length c9∧Hid (Below w3.heap.size w3 wr)∧Hid (SO elE wr w3.heap.size 73 (.slice A9 (btwF nm (ps.take j)).length c9) kN (btwF nm (ps.take j)))) (fun _ s48 _=>ps.length-(intOf s48).toNat)
    case atStart=>exact ⟨0,none,0,Nat.zero_le _,rfl,rfl,lh (Below.refl _ _),lh (SO.nil _ _ _ _ _)⟩
    case round =>
     obtain ⟨j,A9,c9,hj,rfl,rfl,HB,HSO⟩:=hrel
     by_cases hlt:j<ps.length
     ·obtain ⟨q,hq⟩:∃ q,ps[j]? = some q:=⟨_,gE hlt⟩
      obtain ⟨b6,o6,B2,d2,A2,c2,C2,n2,D2,m2,rfl,hb6,hcs,hpg⟩:=(HSP.out.below HB.out).pc hq
      have z0:=hcs 0 _ rfl;have z1:=hcs 1 _ rfl;have z2:=hcs 2 _ rfl;have z3:=hcs 3 _ rfl;have z4:=hcs 4 _ rfl;have z5:=hcs 5 _ rfl;have z6:=hcs 6 _ rfl;have z7:=hcs 7 _ rfl;have z8:=hcs 8 _ rfl
      rw [Nat.add_zero] at z0
      have hzq:=HZ.out.2 q (mG hq)
      have HBS:=lh (btw_snoc (name:=nm) hq)
      have hbl:=btw_len (name:=nm) (ps:=ps.take j)
      rw [List.length_take] at hbl
      by_cases hk:q.2.1=1
      ·have bk:(q.2.1==1)=true:=by simpa using hk
       obtain ⟨E,HEE⟩:∃ E,Hid (entF q=E):=⟨_,lh rfl⟩
       have HB2:Hid (btwF nm (ps.take (j+1))=btwF nm (ps.take j)++[(E.1,stoP q.1.1 nm,E.2.2)]):=lh (by rw [HBS.out,if_pos hk];unfold btE;rw [HEE.out])
       have hej:(ps.map entF)[j]? = some E:=by rw [List.getElem?_map,hq,← HEE.out];rfl
       obtain ⟨b7,o7,A4,c4,B4,d4,H4,n4,rfl,v0,v1,v2,v3,v4,heg,-⟩:=HSE.out.en hej
       have hb7:b7<w3.heap.size:=cell_lt v0
       have HGL:Hid (0<E.2.2.length→∀ a,H4=some a→a.block<w3.heap.size):=lh (fun h0 a ea=>heg.2.2.lt h0 a ea)
       have hbs:=HB.out.size
       replace v0:=(HB.out.cell (p:=⟨b7,o7+j * 5,none⟩) hb7).trans v0
       replace v1:=(HB.out.cell (p:=⟨b7,o7+j * 5+1,none⟩) hb7).trans v1
       replace v2:=(HB.out.cell (p:=⟨b7,o7+j * 5+2,none⟩) hb7).trans v2
       replace v3:=(HB.out.cell (p:=⟨b7,o7+j * 5+3,none⟩) hb7).trans v3
       replace v4:=(HB.out.cell (p:=⟨b7,o7+j * 5+4,none⟩) hb7).trans v4
       have hb7':b7<wr.heap.size:=Nat.lt_of_lt_of_le hb7 hbs
       have HSD:=lh (fun W (k:RT W B2 d2 q.1.1.1)=>stored_any B2 d2 q.1.1.1 q.1.1.2 nm W k (okPn_len hzq.2.1.1).1 (by have:=(okPn_len hzq.2.1.1).2;omega))
       obtain ⟨xs5,HXS⟩:∃ xs5,Hid (q.1.1.1.set 0 nm=xs5):=⟨_,lh rfl⟩
       rw [HXS.out] at HSD
       unfold RetSd at HSD
       have HST:Hid (stoP q.1.1 nm=(xs5,q.1.1.2)):=lh (by unfold stoP;rw [HXS.out])
       rw [HST.out] at HB2
       have HQ:At (fun W=>BX W wr.heap.size [.slice B2 q.1.1.1.length d2,.bool q.1.1.2,.slice A2 q.1.2.length c2,.int .i64 1,.bool false,.slice C2 q.2.2.1.1.length n2,.bool q.2.2.1.2,.slice D2 q.2.2.2.1.length m2,.bool q.2.2.2.2]∧BNX W (wr.heap.size+1) [.slice A4 E.1.1.length c4,.bool E.1.2,.slice B4 E.2.1.1.length d4,.bool E.2.1.2,.slice H4 E.2.2.length n4]∧(RT W B2 d2 q.1.1.1∧EG W E A4 c4 B4 d4 H4 n4)∧SO elE W w3.heap.size 73 (.slice A9 (btwF nm (ps.take j)).length c9) (fun b=>kN b∨wr.heap.size≤b) (btwF nm (ps.take j))∧Below w3.heap.size w3 W) ((wr.alloc (.cells #[.slice B2 q.1.1.1.length d2,.bool q.1.1.2,.slice A2 q.1.2.length c2,.int .i64 1,.bool false,.slice C2 q.2.2.1.1.length n2,.bool q.2.2.1.2,.slice D2 q.2.2.2.1.length m2,.bool q.2.2.2.2] 71)).alloc (.cells #[.slice A4 E.1.1.length c4,.bool E.1.2,.slice B4 E.2.1.1.length d4,.bool E.2.1.2,.slice H4 E.2.2.length n4] 73)) :=
        ⟨fun X Y h hb=>⟨h.1.below hb,h.2.1.below hb,⟨h.2.2.1.1.below hb,h.2.2.1.2.below hb⟩,h.2.2.2.1.below hb,go3 h.2.2.2.2 hb⟩,(BX.new wr _ _ rfl).below (ba _ _),BNX.new _ [_,_,_,_,_] _ (by simp) (ns5 ns_slice ns_bool ns_slice ns_bool ns_slice),⟨hpg.1.1.below bB,(heg.below HB.out).below bB⟩,(HSO.out.fresh).below bB,go3 HB.out bB⟩
       have HOL:Hid (∀ t,(Value.slice A9 (btwF nm (ps.take j)).length c9).ownBlock=some t→w3.heap.size≤t∧t<wr.heap.size):=lh (fun t ht=>HSO.out.own t ht)
       clear hcs hpg hzq hq heg HSO HBS hej HST HXS HEE HZ
       go_upto_region 17 with (go_at_call 22;refine (HSD.out _ (HQ.go bB).out.2.2.1.1).mono ?_;rintro e w5 ⟨B5,d5,rfl,hrt,hb5⟩;replace HQ:=HQ.go2 bB hb5;have HRT:=lh hrt;obtain ⟨t0,t1,t2,t3,t4⟩:=HQ.out.2.1.1.c5;have f2:=HQ.out.2.1.1.2.1 2;have f3:=HQ.out.2.1.1.2.1 3;have tl:=HQ.out.2.1.1.2.2;clear hb5 hrt)
       have zz:=HQ.out.2.1
       have hc:=ch_set2' (g:=wr.heap.size+1) (w:=w5) zz.2 (.slice B5 xs5.length d5) (.bool q.1.1.2) ns_slice
       have HV:At (fun W=>BX W (wr.heap.size+1) [.slice A4 E.1.1.length c4,.bool E.1.2,.slice B5 xs5.length d5,.bool q.1.1.2,.slice H4 E.2.2.length n4]∧SO elE W w3.heap.size 73 (.slice A9 (btwF nm (ps.take j)).length c9) kN (btwF nm (ps.take j))∧EG W (E.1,(xs5,q.1.1.2),E.2.2) A4 c4 B5 d5 H4 n4∧Below w3.heap.size w3 W) ((w5.setCell ⟨wr.heap.size+1,2,none⟩ (.slice B5 xs5.length d5)).setCell ⟨wr.heap.size+1,3,none⟩ (.bool q.1.1.2)) :=
        ⟨fun X Y h hb=>⟨h.1.below hb,h.2.1.below hb,h.2.2.1.below hb,go3 h.2.2.2 hb⟩,(zz.1.set (j:=2) (by simp) _).set (j:=3) (by simp) _,
         ((HQ.out.2.2.2.1.ch (hc (fun b=>kN b∨wr.heap.size≤b) (.inr (by omega))) (fun b hb2 hk2=>hk2.elim (fun h=>h) (fun h=>by have:=(HOL.out b hb2).2;omega))).mono (fun b hb2=>.inl hb2)),
         ⟨HQ.out.2.2.1.2.1.ch (hc (fun _=>True) trivial),HRT.out.ch (hc (fun _=>True) trivial),HQ.out.2.2.1.2.2.2.ch (K:=fun b=>b=wr.heap.size+1) (fun h0 a ea hk2=>by have:=HGL.out h0 a ea;omega) (hc _ rfl)⟩,
         (HQ.out.2.2.2.2.setCell (p:=⟨wr.heap.size+1,2,none⟩) (by show w3.heap.size≤wr.heap.size+1;omega) _).setCell (p:=⟨wr.heap.size+1,3,none⟩) (by show w3.heap.size≤wr.heap.size+1;omega) _⟩
       clear zz hc HQ HRT t0 t1 t2 t3 t4 f2 f3 tl v0 v1 v2 v3 v4 z0 z1 z2 z3 z4 z5 z6 z7 z8
       generalize hVV:((w5.setCell ⟨wr.heap.size+1,2,none⟩ (.slice B5 xs5.length d5)).setCell ⟨wr.heap.size+1,3,none⟩ (.bool q.1.1.2))=V at *
       clear hVV
       obtain ⟨z0,z1,z2,z3,z4⟩:=HV.out.1.c5
       have zl8:=HV.out.1.2.2
       have hvs:w3.heap.size≤V.heap.size:=HV.out.2.2.2.size
       go_wp2_with (at_builtin;refine wpList_append_so1 elE elET rfl _ _ rfl w3.heap.size _ kN (btwF nm (ps.take j)) (E.1,(xs5,q.1.1.2),E.2.2) [.slice A4 E.1.1.length c4,.bool E.1.2,.slice B5 xs5.length d5,.bool q.1.1.2,.slice H4 E.2.2.length n4] V.heap.size 1 rfl rfl (HV.out.2.1.below (ba _ _)) ⟨A4,c4,B5,d5,H4,n4,rfl,HV.out.2.2.1.below (ba _ _),fun h0 a ea hk2=>(hk2.elim (fun h=>by have h8:=(HOL.out _ h).1;have h9:=HGL.out h0 a ea;omega) (fun h=>h))⟩ (cells_new _ [_,_,_,_,_] _ rfl) (by simp) (by omega) (by omega) (by omega) (by simp;omega) ?_;intro v8 w8 hso8 hg8 hor8;obtain ⟨A8,n8',c8,rfl,hn8l⟩:=so_shape hso8;have HSO8:=lh hso8;have HB8:=lh ((go3 HV.out.2.2.2 (ba V _)).grown hg8 (go3 HV.out.2.2.2 (ba V _)).size (fun t ht=>(HV.out.2.1.own t ht).1));clear hso8 hg8 hor8)
       have e8:=hn8l.out
       subst e8
       go_roundw
       case rel=>exact ⟨j+1,A8,c8,by omega,by go_num,by rw [HB2.out],HB8,lh (by rw [HB2.out];exact HSO8.out)⟩
       case measure=>simp [intOf];omega
      ·have bk:(q.2.1==1)=false:=by simpa using hk
       have HB2:Hid (btwF nm (ps.take (j+1))=btwF nm (ps.take j)):=lh (by rw [HBS.out,if_neg hk,List.append_nil])
       clear hk hcs hpg hzq hq
       go_wp2_with fail
       go_roundw
       case rel=>exact ⟨j+1,A9,c9,by omega,by go_num,by rw [HB2.out],lh (go3 HB.out (ba _ _)),lh (by rw [HB2.out];exact HSO.out.below (ba _ _))⟩
       case measure=>simp [intOf];omega
     ·obtain rfl:j=ps.length:=by omega
      rw [List.take_length] at HSO ⊢
      go_wp2_with fail
      obtain ⟨A8,c8,e8,hsv8,-,-⟩:=HSO.out.read (fun _ _ h=>h)
      simp only [Value.slice.injEq] at e8
      obtain ⟨rfl,-,rfl⟩:=e8
      go_ret2
      exact RetBw.ok HE.out rfl hsv8 (go3 HB3.out HB.out)
 ·have HFD2:=lh (HFD.out.mono fun _ _ k=>k.2 hf)
  have HE:Hid (betF l name=(none,findE l name)):=lh (if_neg hf)
  have hfb:(findE l name != 0)=true:=by simpa using hf
  clear HFD h hz hm hf hv hpc
  generalize findE l name=E at *
  go_enter Tryz.func9,Tryz.ntmps9
  go_wp2_with (first
   | (go_at_call 19;refine HFD2.out.mono ?_;rintro e w1 ⟨p,rfl,hb1⟩;have HB1:=lh hb1;clear hb1))
  all_goals go_ret2
  all_goals exact RetBw.bad HE.out rfl HB1.out
open Pm
def mainN:ByteArray:=⟨#[109,97,105,110]⟩
def devN:ByteArray:=⟨#[100,101,118]⟩
def wln:Ln:=(1,([viewN],true),([],false))
def wls:List St:=[(mainN,⟨#[]⟩,[wln]),(devN,mainN,[wln])]
def wPc (name:ByteArray):Pc:=((([viewN],true),[]),1,([viewN],true),([name],true))
def wEs:List En:=[(([devN],true),([mainN],true),[])]
theorem w_find:findE wls devN=0:=by decide +kernel
theorem w_idx:idxS wls devN=some 1:=by decide +kernel
theorem w_par0:parS wls 0=none:=by decide +kernel
theorem w_par1:parS wls 1=some 0:=by decide +kernel
theorem w_own (n:ByteArray):ownR [wln] 0 wln=(([viewN],true),[]):=by
 unfold ownR laterL
 show (([viewN],true),redH ([viewN],true) [])=_
 rw [redH_nil]
theorem w_met:met ([viewN],true) ([viewN],true)=([viewN],true):=by decide +kernel
theorem w_metO:metO ([viewN],true) ([viewN],true)=true:=by decide +kernel
theorem w_rmB:rmB (([viewN],true),[]) (([viewN],true),[])=(([viewN],true),[]):=by
 unfold rmB
 show (met ([viewN],true) ([viewN],true),redH _ ([]++[]))=_
 rw [List.append_nil,redH_nil,w_met]
theorem w_void:voidF ([viewN],true) []=false:=by decide +kernel
theorem w_rmE:rmE (([viewN],true),[]) (([viewN],true),[])=false:=by
 unfold rmE
 rw [w_rmB]
 simp
theorem w_rmO:rmO (([viewN],true),[]) (([viewN],true),[])=true:=by
 unfold rmO
 rw [w_rmB,w_metO]
 show (true&&(decide (0≤64)&&!voidF ([viewN],true) []))=true
 rw [w_void]
 rfl
theorem w_nr (name:ByteArray) (h:nrE ([viewN],true) ([name],true) ([viewN],true)=0) (h1:nrL ([viewN],true) ([name],true) ([viewN],true)=([viewN],true)) (h2:nrR ([viewN],true) ([name],true) ([viewN],true)=([name],true)) {q:Pc} (hq:q.1=(([viewN],true),[])) (hk:q.2.1=1) :
 rowQ name [wln] [q] 1=some [wPc name]:=by
 have e1:rowQ name [wln] [q] 1=lineQ name [wln] [q] (rowQ name [wln] [q] 0) 0 wln:=rowQ_succ rfl
 have e0:rowQ name [wln] [q] 0=some []:=rfl
 have hwd:wideP name wln q (rmB (ownR [wln] 0 wln) q.1)=(([viewN],true),([name],true)):=by
  unfold wideP
  rw [if_neg (by rw [hk];decide),if_neg (by decide),w_own name,hq,w_rmB]
  rfl
 rw [e1,e0]
 unfold lineQ
 rw [if_neg (by decide)]
 show stepQ name wln (ownR [wln] 0 wln) (some []) q=_
 unfold stepQ
 dsimp only
 have hE:nwE name wln q (rmB (ownR [wln] 0 wln) q.1)=0:=by
  unfold nwE
  rw [hwd,w_own name,hq,w_rmB]
  exact h
 have hP:nwP name wln q (rmB (ownR [wln] 0 wln) q.1)=wPc name:=by
  unfold nwP
  rw [hwd,w_own name,hq,w_rmB]
  have hkd:kindP wln q=1:=by
   unfold kindP
   rw [if_neg (by rw [hk];decide),if_neg (by decide),hk]
   rfl
  rw [hkd]
  show ((([viewN],true),[]),(1:Int),nrL ([viewN],true) ([name],true) ([viewN],true),nrR ([viewN],true) ([name],true) ([viewN],true))=_
  rw [h1,h2]
  rfl
 rw [hE,hP,w_own name,hq,w_rmE,w_rmO]
 simp
theorem w_pcs0:pcsF wls 1 0=some [wPc mainN]:=by
 have e:pcsF wls 1 0=match (match parS wls 0 with|some p=>pcsF wls 0 p|none=>some [pc0]) with
  | none=>none
  | some ab=>rowQ mainN [wln] ab 1:=rfl
 rw [e,w_par0]
 exact w_nr mainN (by decide +kernel) (by decide +kernel) (by decide +kernel) rfl rfl
theorem w_pcs:pcsF wls 2 1=some [wPc devN]:=by
 have e:pcsF wls 2 1=match (match parS wls 1 with|some p=>pcsF wls 1 p|none=>some [pc0]) with
  | none=>none
  | some ab=>rowQ devN [wln] ab 1:=rfl
 rw [e,w_par1]
 dsimp only
 rw [w_pcs0]
 exact w_nr devN (by decide +kernel) (by decide +kernel) (by decide +kernel) rfl rfl
theorem w_vw:vwF wls 2 1=some [wPc devN]:=by
 unfold vwF
 rw [w_pcs]
 rfl
theorem w_ent:entF (wPc devN)=(([devN],true),([viewN],true),[]):=by
 unfold entF
 show (([devN],true),([viewN],true),redH ([devN],true) [])=_
 rw [redH_nil]
theorem w_view:vewF wls devN=(some [wPc devN],0):=by
 unfold vewF
 rw [if_pos w_find,w_idx]
 show (match vwF wls 2 1 with|some ps=>(some ps,(0:Int))|none=>(none,80))=_
 rw [w_vw]
theorem w_bet:betF wls devN=(some wEs,0):=by
 unfold betF
 rw [if_pos w_find,w_idx]
 show (if mainN.size=0 then ((none:Option (List En)),(87:Int)) else (match vwF wls 2 1 with|some ps=>(some (btwF mainN ps),0)|none=>(none,80)))=_
 rw [if_neg (by decide),w_vw]
 show (some (btwF mainN [wPc devN]),(0:Int))=_
 have:btwF mainN [wPc devN]=wEs:=by
  show [((entF (wPc devN)).1,stoP ([viewN],true) mainN,(entF (wPc devN)).2.2)]=_
  rw [w_ent]
  rfl
 rw [this]
def pDev:ByteArray:=⟨#[47,47,100,101,118,47,97]⟩
def pMain:ByteArray:=⟨#[47,47,109,97,105,110,47,97]⟩
def pView:ByteArray:=⟨#[47,47,118,105,101,119,47,97]⟩
theorem w_for1:forM wEs pDev=(pMain,true):=by decide +kernel
theorem w_for2:forM [(([devN],true),([viewN],true),[])] pDev=(pView,true):=by decide +kernel
theorem w_ok1:okM wEs:=by
 refine ⟨fun e he=>?_,by decide⟩
 rw [List.mem_singleton.1 he]
 refine ⟨⟨?_,?_,fun h hh=>(by cases hh),by decide⟩,fun x hx=>?_,fun x hx=>?_,fun h hh=>(by cases hh)⟩
 ·show ruleE _ _ _ _=0
  decide +kernel
 ·show checkP _ _=0
  decide +kernel
 ·rw [List.mem_singleton.1 hx];decide +kernel
 ·rw [List.mem_singleton.1 hx];decide +kernel
theorem w_ok2:okM [(([devN],true),([viewN],true),[])]:=by
 refine ⟨fun e he=>?_,by decide⟩
 rw [List.mem_singleton.1 he]
 refine ⟨⟨?_,?_,fun h hh=>(by cases hh),by decide⟩,fun x hx=>?_,fun x hx=>?_,fun h hh=>(by cases hh)⟩
 ·show ruleE _ _ _ _=0
  decide +kernel
 ·show checkP _ _=0
  decide +kernel
 ·rw [List.mem_singleton.1 hx];decide +kernel
 ·rw [List.mem_singleton.1 hx];decide +kernel
theorem w_sz:SzS wls:=fun s hs=>by
 have h40:∀ p∈[wln],szN 40 p.2.1∧szN 40 p.2.2:=fun p hp=>by
  rw [List.mem_singleton.1 hp]
  refine ⟨fun x hx=>?_,fun x hx=>(by cases hx)⟩
  have hx:x∈[viewN]:=hx
  rw [List.mem_singleton.1 hx]
  decide +kernel
 simp only [wls,List.mem_cons,List.not_mem_nil,or_false] at hs
 rcases hs with rfl|rfl
 ·exact ⟨⟨by decide +kernel,by decide +kernel⟩,by decide,h40⟩
 ·exact ⟨⟨by decide +kernel,by decide +kernel⟩,by decide,h40⟩
def lD:Pn:=([⟨#[100]⟩],true)
def rD:Pn:=([⟨#[99]⟩],true)
def pD:ByteArray:=⟨#[47,47,100,47,97]⟩
def pC:ByteArray:=⟨#[47,47,99,47,97]⟩
theorem w_rl:rlOk lD rD:=by
 show ruleE _ _ _ _=0
 decide +kernel
theorem w_f:fO lD rD pD=true∧fT lD rD pD=pC:=by
 constructor
 ·show fwdO _ _ _ _ _=true
  decide +kernel
 ·show fwdT _ _ _ _ _=_
  decide +kernel
open Pm
open Go.RowKit Go.WideShapes
theorem sound_any (m:List En) (K:Nat→Prop) (A:Option Addr) (c:Nat) (w:World) (hsv:SV elE w K A c m) (ok:okM m) (hm:ML w) :
 Calls Tryz.prog 13 #[.slice A m.length c] w fun e w'=>e=.returned (.bool (chkM m==0))∧Below w.heap.size w w':=by
 have HCK:=lh (fun W (hW:Below w.heap.size w W)=>chk_any m K A c W (hsv.below hW) ok (hm.below hW))
 clear hsv ok hm
 go_enter Tryz.func13,Tryz.ntmps13
 go_wp2_with (go_at_call 32;refine (HCK.out _ bB).mono ?_;rintro e w1 ⟨i,rfl,hb1⟩;have HB1:=lh hb1;clear hb1)
 go_ret
 exact ⟨rfl,HB1.out⟩
def fineB (es:List Int):Bool:=es.all (·==0)
theorem BX.err {w:World} {g:Nat} {es:List Int} (h:BX w g (es.map fun x=>.int .i64 x)) {j:Nat} {x:Int} (hx:es[j]? = some x):w.cell? ⟨g,j,none⟩=some (.int .i64 x):=h.1 j _ (by rw [List.getElem?_map,hx];rfl)
theorem fine_any (es:List Int) (g c:Nat) (w:World) (h:BX w g (es.map fun x=>.int .i64 x)) (hl:es.length≤c) (hc:c≤1000) :
 Calls Tryz.prog 10 #[.slice (some ⟨g,0,none⟩) es.length c] w fun e w'=>e=.returned (.bool (fineB es))∧Below w.heap.size w w':=by
 have HB:=lh h
 clear h
 go_enter Tryz.func10,Tryz.ntmps10
 go_wp2_with fail
 go_loopw [7] (fun s7 wr=>∃ k:Nat,k≤es.length∧s7=.int .i64 k∧Hid (Below w.heap.size w wr)∧Hid (∀ j x,j<k→es[j]? = some x→x=0)) (fun s7 _=>es.length-(intOf s7).toNat)
 case atStart=>exact ⟨0,Nat.zero_le _,rfl,lh (Below.refl _ _),lh (fun j x hj=>by omega)⟩
 case round =>
  obtain ⟨k,hk,rfl,HW,HZ⟩:=hrel
  by_cases hlt:k<es.length
  ·obtain ⟨x,hx⟩:∃ x,es[k]? = some x:=⟨_,gE hlt⟩
   have x0:=(HB.out.below HW.out).err hx
   have hgl:=(HB.out.below HW.out).2.2
   by_cases hz:x=0
   ·subst hz
    have HZ2:Hid (∀ j x,j<k+1→es[j]? = some x→x=0):=lh (fun j y hj hy=>by
     rcases Nat.lt_or_ge j k with h1|h1
     ·exact HZ.out j y h1 hy
     ·obtain rfl:j=k:=by omega
      rw [hx] at hy
      cases hy
      rfl)
    clear hx
    go_wp2_with fail
    go_roundw
    case rel=>exact ⟨k+1,by omega,by go_num,HW,HZ2⟩
    case measure=>simp [intOf];omega
   ·have hb:(x != 0)=true:=by simpa using hz
    have HN:Hid (fineB es=false):=lh (by
     unfold fineB
     rw [List.all_eq_false]
     exact ⟨x,mG hx,by simpa using hz⟩)
    clear hx
    go_wp2_with fail
    go_ret
    exact ⟨by rw [HN.out];rfl,HW.out⟩
  ·obtain rfl:k=es.length:=by omega
   have HY:Hid (fineB es=true):=lh (by
    unfold fineB
    rw [List.all_eq_true]
    intro x hx
    obtain ⟨j,hj⟩:=List.mem_iff_getElem?.1 hx
    rw [HZ.out j x (sI.1 hj).1 hj]
    rfl)
   go_wp2_with fail
   go_ret
   exact ⟨by rw [HY.out];rfl,HW.out⟩
end Go.Proofs.YtelkmeiepliecaaGreatDoor
