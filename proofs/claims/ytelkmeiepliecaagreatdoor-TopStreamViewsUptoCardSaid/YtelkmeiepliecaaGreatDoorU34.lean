/-
  Part 34 of the proof.
-/
import Derived.Test.YtelkmeiepliecaaGreatDoorU33
set_option linter.unusedSimpArgs false
set_option linter.unusedVariables false
set_option maxHeartbeats 16000000
namespace Go.Proofs.YtelkmeiepliecaaGreatDoor
open Pm
open Go.RowKit Go.WideShapes
theorem impsL_snoc {ps:List Ln} {k:Nat} {p:Ln} (h:ps[k]? = some p):impsL (ps.take (k+1))=impsL (ps.take k)++(if p.1=3 then [p.2.2] else []):=by
 unfold impsL
 rw [List.take_add_one,h]
 simp only [Option.toList_some,List.filter_append,List.map_append]
 congr 1
 by_cases e:p.1=3
 ·simp [e]
 ·simp [e]
theorem flat_snoc {α β:Type} (f:α→List β) {L:List α} {k:Nat} {x:α} (h:L[k]? = some x):(L.take (k+1)).flatMap f=(L.take k).flatMap f++f x:=by
 rw [List.take_add_one,h]
 simp
theorem impsI_at {l:List St} {i:Nat} {s:St} (h:l[i]? = some s):impsI l i=impsL s.2.2:=by
 unfold impsI
 rw [h]
theorem badL_skip {l:List St} {i:Nat} {os:List Pn} {p:Ln} {ps:List Ln} (h:p.1≠3):badL l i os (p::ps)=badL l i os ps:=if_pos h
theorem badL_own {l:List St} {i:Nat} {os:List Pn} {p:Ln} {ps:List Ln} (h:p.1=3) (ho:ownT l i p.2.2=true):badL l i os (p::ps)=true:=by
 have e:badL l i os (p::ps)=if p.1≠3 then badL l i os ps else ownT l i p.2.2 || os.any (metO p.2.2) || badL l i (os++[p.2.2]) ps:=rfl
 rw [e,if_neg (fun h2=>h2 h),ho]
 rfl
theorem badL_met {l:List St} {i:Nat} {os:List Pn} {p:Ln} {ps:List Ln} {q:Pn} (h:p.1=3) (hq:q∈os) (hm:metO p.2.2 q=true):badL l i os (p::ps)=true:=by
 have e:badL l i os (p::ps)=if p.1≠3 then badL l i os ps else ownT l i p.2.2 || os.any (metO p.2.2) || badL l i (os++[p.2.2]) ps:=rfl
 rw [e,if_neg (fun h2=>h2 h),List.any_eq_true.2 ⟨q,hq,hm⟩]
 simp
theorem badL_go {l:List St} {i:Nat} {os:List Pn} {p:Ln} {ps:List Ln} (h:p.1=3) (ho:ownT l i p.2.2=false) (hm:os.any (metO p.2.2)=false):badL l i os (p::ps)=badL l i (os++[p.2.2]) ps:=by
 have e:badL l i os (p::ps)=if p.1≠3 then badL l i os ps else ownT l i p.2.2 || os.any (metO p.2.2) || badL l i (os++[p.2.2]) ps:=rfl
 rw [e,if_neg (fun h2=>h2 h),ho,hm]
 rfl
theorem drop_at {α:Type} {l:List α} {k:Nat} {x:α} (h:l[k]? = some x):l.drop k=x::l.drop (k+1):=drop_consP h
theorem FO.line {w w':World} {g m:Nat} {A:Option Addr} {c:Nat} {l:List St} (h:FO w g m A c l) (hb:Below w.heap.size w w') {i:Nat} {s:St} (hs:l[i]? = some s) :
 ∃ b o P n,A=some ⟨b,o,none⟩∧b<w'.heap.size∧w'.cell? ⟨b,o+i * 3,none⟩=some (.string s.1)∧w'.cell? ⟨b,o+i * 3+1,none⟩=some (.string s.2.1)∧w'.cell? ⟨b,o+i * 3+2,none⟩=some (.slice P s.2.2.length n)∧SV elL w kN P n s.2.2:=by
 obtain ⟨b,o,P,n,e,hlt,k1,k2,k3,k4⟩:=h.2.1.at_ hs
 exact ⟨b,o,P,n,e,Nat.lt_of_lt_of_le hlt hb.size,(hb.cell (p:=⟨b,_,none⟩) hlt).trans k1,(hb.cell (p:=⟨b,_,none⟩) hlt).trans k2,(hb.cell (p:=⟨b,_,none⟩) hlt).trans k3,k4⟩
theorem any_take {α:Type} {p:α→Bool} {l:List α} {k:Nat} {x:α} (hx:l[k]? = some x) (h:(l.take k).any p=false) (hp:p x=false):(l.take (k+1)).any p=false:=by
 rw [List.take_add_one,hx,List.any_append,h]
 simpa using hp
theorem line3 {P F:Pn} (h:lineOk (3,P,F)=true):okPn F:=by
 unfold lineOk at h
 simp at h
 exact (ruleE_zero.1 h.2.1).2.1
theorem SV.pn {w:World} {K:Nat→Prop} {A0:Option Addr} {c0:Nat} {m:List Pn} (h:SV elP w K A0 c0 m) {j:Nat} {q:Pn} (hx:m[j]? = some q) :
 ∃ b o C n,A0=some ⟨b,o,none⟩∧b<w.heap.size∧w.cell? ⟨b,o+j * 2,none⟩=some (.slice C q.1.length n)∧w.cell? ⟨b,o+j * 2+1,none⟩=some (.bool q.2)∧RT w C n q.1:=by
 obtain ⟨b,o,r,ea,hlt,hc,C,n,rfl,k⟩:=h.at_ hx
 exact ⟨b,o,C,n,ea,hlt,hc 0 _ rfl,hc 1 _ rfl,k⟩
def szO (os:List Pn):Prop:=∀ q∈os,szN 40 q
theorem szO.app {a b:List Pn} (h:szO a) (k:szO b):szO (a++b):=fun q hq=>(List.mem_append.1 hq).elim (h q) (k q)
theorem szO.of {l:List St} (hz:SzS l) {i:Nat} {s:St} (hs:l[i]? = some s) {k:Nat} {p:Ln} (hp:s.2.2[k]? = some p):szN 40 p.2.1∧szN 40 p.2.2:=(hz s (mG hs)).2.2 p (mG hp)
set_option maxRecDepth 100000 in
theorem bad_any (g m:Nat) (A:Option Addr) (c:Nat) (l:List St) (i:Nat) (w:World) (h:FO w g m A c l) (hi:i<l.length) (hl:l.length≤100) (hz:SzS l) (hln:∀ s∈l,∀ p∈s.2.2,lineOk p=true) :
 Calls Tryz.prog 119 #[.pointer (some ⟨g,0,none⟩),.int .i64 i] w (RetE w (badE2 l i)):=by
 have HAB:=lh (fun W (hW:Below w.heap.size w W)=>above_any g m A c l i W (h.below hW) hi hl hz.nm)
 have HTP:=lh (fun j (hj:j<l.length) W (hW:Below w.heap.size w W)=>top_any g m A c l j W (h.below hW) hj hl hz.nm)
 have HFO:=lh h
 have HZ:=lh hz
 have HLN:=lh hln
 have q1:=h.2.1.1
 have q2:=h.2.1.2.1
 have hlen:(abvS l i).length≤100:=Nat.le_trans (abvF_len _ _) hl
 obtain ⟨s,hs⟩:∃ s,l[i]? = some s:=⟨_,gE hi⟩
 have HS:=lh hs
 have HE:Hid (badE2 l i=if badL l i ((abvS l i).flatMap (impsI l)) s.2.2=true then 85 else 0):=lh (by unfold badE2;rw [hs])
 have HLT:Hid (∀ x∈abvS l i,x<l.length):=lh (fun x hx=>abvF_lt _ _ x hx)
 generalize abvS l i=L at *
 clear h hz hln hs
 go_enter Tryz.func119,Tryz.ntmps119
 go_wp2_with (go_at_call 20;refine (HAB.out _ bB).mono ?_;rintro e w1 ⟨A1,c1,rfl,hsv,hb1⟩;have HB1:=lh hb1;have HSV:=lh hsv;have q3:=hsv.lenc;have q4:=hsv.capc;clear hb1 hsv)
 have HFO1:=lh (HFO.out.below HB1.out)
 have hw1:=HB1.out.size
 go_loopw [5,22] (fun s5 s22 wr=>∃ (k n5:Nat) (A5:Option Addr) (c5:Nat),k≤L.length∧s22=.int .i64 k∧s5=.slice A5 n5 c5∧n5≤k * 15∧Hid (n5=((L.take k).flatMap (impsI l)).length)∧Hid (SO elP wr w1.heap.size 45 (.slice A5 n5 c5) kN ((L.take k).flatMap (impsI l))∧Below w1.heap.size w1 wr)∧Hid (szO ((L.take k).flatMap (impsI l)))) (fun _ s22 _=>L.length-(intOf s22).toNat)
 case atStart=>exact ⟨0,0,none,0,Nat.zero_le _,rfl,rfl,Nat.le_refl _,lh (by simp),lh ⟨by simpa using SO.nil _ _ _ _ _,Below.refl _ _⟩,lh (fun q hq=>by simp at hq)⟩
 case round =>
  obtain ⟨k,n5,A5,c5,hk,rfl,rfl,hn5,HN,HQ,HO⟩:=hrel
  by_cases hlt:k<L.length
  ·obtain ⟨x,hx⟩:∃ x,L[k]? = some x:=⟨_,gE hlt⟩
   have hxl:=HLT.out x (mG hx)
   obtain ⟨b,o,rfl,hbw,x0⟩:=(HSV.out.below HQ.out.2).nat hx
   obtain ⟨t,ht⟩:∃ t,l[x]? = some t:=⟨_,gE hxl⟩
   have HW0:=HFO1.out.below HQ.out.2
   obtain ⟨y0,y1⟩:=HW0.1.c2
   have hgw:=HW0.1.2.2
   obtain ⟨b1,o1,P,n,rfl,hbw1,z0,z1,z2,hsv⟩:=HFO1.out.line HQ.out.2 ht
   have HSP:=lh hsv
   have q5:=hsv.lenc
   have q6:=hsv.capc
   have hp15:=(HZ.out t (mG ht)).2.1
   have HT:=lh ht
   have HX:=lh (flat_snoc (impsI l) hx)
   have HI:=lh (impsI_at ht)
   clear hx ht hsv HW0
   go_wp2_with fail
   go_loopw [5,35] (fun s5 s35 wr=>∃ (j n5:Nat) (A5:Option Addr) (c5:Nat),j≤t.2.2.length∧s35=.int .i64 j∧s5=.slice A5 n5 c5∧n5≤k * 15+j∧Hid (n5=((L.take k).flatMap (impsI l)++impsL (t.2.2.take j)).length)∧Hid (SO elP wr w1.heap.size 45 (.slice A5 n5 c5) kN ((L.take k).flatMap (impsI l)++impsL (t.2.2.take j))∧Below w1.heap.size w1 wr)∧Hid (szO ((L.take k).flatMap (impsI l)++impsL (t.2.2.take j)))) (fun _ s35 _=>t.2.2.length-(intOf s35).toNat)
   case atStart=>exact ⟨0,n5,A5,c5,Nat.zero_le _,rfl,rfl,by omega,lh (by rw [HN.out];simp [impsL]),lh ⟨by have:=HQ.out.1;simpa [impsL] using this,HQ.out.2⟩,lh (by have:=HO.out;simpa [impsL] using this)⟩
   case round =>
    clear HN HQ HO
    obtain ⟨j,n5,A5,c5,hj,rfl,rfl,hn5,HN,HQ,HO⟩:=hrel
    by_cases hjl:j<t.2.2.length
    ·obtain ⟨p,hp⟩:∃ p,t.2.2[j]? = some p:=⟨_,gE hjl⟩
     obtain ⟨b2,o2,B,d,A2,c2,rfl,hb2,e0,e1,e2,e3,e4,k1,k2⟩:=(HSP.out.below HQ.out.2).ln hp
     have HRT:=lh k2
     have HJ:=lh (impsL_snoc hp)
     have HPZ:=lh (szO.of HZ.out HT.out hp)
     clear hp k1 k2
     obtain ⟨kd,PP,FF⟩:=p
     simp only at e0 e1 e2 e3 e4
     by_cases hk3:kd=3
     ·subst hk3
      have HJ2:Hid (impsL (t.2.2.take (j+1))=impsL (t.2.2.take j)++[FF]):=lh (by rw [HJ.out];rfl)
      clear HJ
      go_wp2_with (at_builtin;refine wpList_append_so1 elP elPT rfl _ _ rfl w1.heap.size _ kN ((L.take k).flatMap (impsI l)++impsL (t.2.2.take j)) FF [.slice A2 FF.1.length c2,.bool FF.2] (wr.heap.size+1) 1 rfl rfl (HQ.out.1.below bB) ⟨A2,c2,rfl,HRT.out.below bB⟩ (cells_new _ [_,_] _ (by simp)) (by simp) (by omega) (by omega) (by have:=HN.out;omega) (by have:=HQ.out.2.size;simp;omega) ?_;intro v8 w8 hso8 hg8 hor8;obtain ⟨A8,n8,c8,rfl,hn8l⟩:=so_shape hso8;have HSO8:=lh hso8;have HB8:=lh ((go3 HQ.out.2 (show Below wr.heap.size wr _ from bB)).grown hg8 (Nat.le_trans HQ.out.2.size (by simp;omega)) (fun j hj=>(HQ.out.1.own j hj).1));clear hso8 hg8 hor8)
      have e8:=hn8l.out
      rw [List.length_append,← HN.out] at e8
      simp only [List.length_cons,List.length_nil,Nat.zero_add] at e8
      go_roundw
      case rel =>
       refine ⟨j+1,n8,A8,c8,by omega,by go_num,rfl,by omega,?_,?_,?_⟩
       ·exact lh (by rw [HJ2.out,← List.append_assoc];exact hn8l.out)
       ·exact lh ⟨by rw [HJ2.out,← List.append_assoc];exact HSO8.out,HB8.out⟩
       ·exact lh (by rw [HJ2.out,← List.append_assoc];exact HO.out.app (fun q hq=>by rw [List.mem_singleton.1 hq];exact HPZ.out.2))
      case measure=>simp [intOf];omega
     ·have hkb:(kd==3)=false:=by simpa using hk3
      have HJ2:Hid (impsL (t.2.2.take (j+1))=impsL (t.2.2.take j)):=lh (by rw [HJ.out,if_neg hk3,List.append_nil])
      clear HJ hk3
      go_wp2_with fail
      go_roundw
      case rel =>
       refine ⟨j+1,n5,A5,c5,by omega,by go_num,rfl,by omega,?_,?_,?_⟩
       ·exact lh (by rw [HJ2.out];exact HN.out)
       ·exact lh (by rw [HJ2.out];exact ⟨HQ.out.1.below bB,go3 HQ.out.2 (show Below wr.heap.size wr _ from bB)⟩)
       ·exact lh (by rw [HJ2.out];exact HO.out)
      case measure=>simp [intOf];omega
    ·obtain rfl:j=t.2.2.length:=by omega
     go_wp2_with fail
     go_roundw
     case rel =>
      have e9:(L.take (k+1)).flatMap (impsI l)=(L.take k).flatMap (impsI l)++impsL (t.2.2.take t.2.2.length):=by rw [HX.out,HI.out,List.take_length]
      refine ⟨k+1,n5,A5,c5,by omega,by go_num,rfl,by omega,?_,?_,?_⟩
      ·exact lh (by rw [e9];exact HN.out)
      ·exact lh (by rw [e9];exact HQ.out)
      ·exact lh (by rw [e9];exact HO.out)
     case measure=>simp [intOf];omega
  ·obtain rfl:k=L.length:=by omega
   have hT:(L.take L.length).flatMap (impsI l)=L.flatMap (impsI l):=by rw [List.take_length]
   rw [hT] at HN HQ HO
   clear hT
   have hosl:n5≤1500:=by omega
   generalize L.flatMap (impsI l)=os at *
   have HW0:=HFO1.out.below HQ.out.2
   obtain ⟨y0,y1⟩:=HW0.1.c2
   have hgw:=HW0.1.2.2
   obtain ⟨b1,o1,P,n,rfl,hbw1,z0,z1,z2,hsv⟩:=HFO1.out.line HQ.out.2 HS.out
   have HSP:=lh hsv
   have q5:=hsv.lenc
   have q6:=hsv.capc
   have hp15:=(HZ.out s (mG HS.out)).2.1
   have HLK:Hid (∀ p∈s.2.2,lineOk p=true):=lh (HLN.out s (mG HS.out))
   clear hsv HW0 hn5 HSV HLT q3 q4 hlen
   go_wp2_with fail
   go_loopw [5,58] (fun s5 s58 wr=>∃ (j n5:Nat) (A5:Option Addr) (c5:Nat) (acc:List Pn),j≤s.2.2.length∧s58=.int .i64 j∧s5=.slice A5 n5 c5∧n5≤1500+j∧Hid (n5=acc.length)∧Hid (SO elP wr w1.heap.size 45 (.slice A5 n5 c5) kN acc∧Below w1.heap.size w1 wr)∧Hid (szO acc)∧Hid (badL l i os s.2.2=badL l i acc (s.2.2.drop j))) (fun _ s58 _=>s.2.2.length-(intOf s58).toNat)
   case atStart=>exact ⟨0,n5,A5,c5,os,Nat.zero_le _,rfl,rfl,by omega,HN,HQ,HO,lh rfl⟩
   case round =>
    clear HN HQ HO y0 y1 z0 z1 z2 hosl hgw hbw1
    obtain ⟨j,n5,A5,c5,acc,hj,rfl,rfl,hn5,HN,HQ,HO,HBD⟩:=hrel
    by_cases hjl:j<s.2.2.length
    ·obtain ⟨p,hp⟩:∃ p,s.2.2[j]? = some p:=⟨_,gE hjl⟩
     obtain ⟨b2,o2,B,d,A2,c2,rfl,hb2,e0,e1,e2,e3,e4,k1,k2⟩:=(HSP.out.below HQ.out.2).ln hp
     have HRT:=lh k2
     have HPZ:=lh (szO.of HZ.out HS.out hp)
     have HDR:=lh (drop_at hp)
     have HLP:=lh (HLK.out p (mG hp))
     clear hp k1 k2
     obtain ⟨kd,PP,FF⟩:=p
     simp only at e0 e1 e2 e3 e4
     by_cases hk3:kd=3
     ·subst hk3
      have hokF:=line3 HLP.out
      have HF0:=lh ((check_zero hokF).1)
      obtain ⟨b3,o3,rfl,hb3,x3⟩:=first_cell HRT.out HF0.out
      have hx3:=HRT.out.1
      have hx4:=HRT.out.2.1
      have hF0:=HF0.out
      have hfz:(FF.1.getD 0 ⟨#[]⟩).size≤9223372036854775807:=by
       have:=HPZ.out.2 (FF.1.getD 0 ⟨#[]⟩) (by rw [show FF.1.getD 0 ⟨#[]⟩=FF.1[0] from by simp [hF0]];exact List.getElem_mem _)
       omega
      have HWF:=lh (HFO1.out.below HQ.out.2)
      obtain ⟨y0,y1⟩:=HWF.out.1.c2
      have hgw:=HWF.out.1.2.2
      have HX3:=lh x3
      have HOW:Hid (ownT l i FF=match idxS l (FF.1.getD 0 ⟨#[]⟩) with|some j=>topS l j==topS l i|none=>false):=lh rfl
      generalize FF.1.getD 0 ⟨#[]⟩=nm at *
      have HBX:Hid (BX (wr.alloc (.cells #[.int .i64 3,.slice B PP.1.length d,.bool PP.2,.slice (some ⟨b3,o3,none⟩) FF.1.length c2,.bool FF.2] 51)) wr.heap.size [.int .i64 3,.slice B PP.1.length d,.bool PP.2,.slice (some ⟨b3,o3,none⟩) FF.1.length c2,.bool FF.2]):=lh (BX.new wr [_,_,_,_,_] _ rfl)
      have HQ2:At (fun W=>Below wr.heap.size wr W∧BX W wr.heap.size [.int .i64 3,.slice B PP.1.length d,.bool PP.2,.slice (some ⟨b3,o3,none⟩) FF.1.length c2,.bool FF.2]) (wr.alloc (.cells #[.int .i64 3,.slice B PP.1.length d,.bool PP.2,.slice (some ⟨b3,o3,none⟩) FF.1.length c2,.bool FF.2] 51)) :=
       ⟨fun X Y h hb=>⟨go3 h.1 hb,h.2.below hb⟩,ba _ _,HBX.out⟩
      cases hx:idxS l nm with
      | none =>
       have HOT:Hid (ownT l i FF=false):=lh (by rw [HOW.out,hx])
       have HK:Hid (∀ W,(Below wr.heap.size wr W∧BX W wr.heap.size [.int .i64 3,.slice B PP.1.length d,.bool PP.2,.slice (some ⟨b3,o3,none⟩) FF.1.length c2,.bool FF.2])→W.cell? ⟨g,1,none⟩=some (.map (some m))∧W.cell? ⟨wr.heap.size,3,none⟩=some (.slice (some ⟨b3,o3,none⟩) FF.1.length c2)∧W.cell? ⟨b3,o3,none⟩=some (.string nm)∧(Instr.lookup 64 (.map (some m)) (.string nm) true).run Tryz.prog W=.ok (.tuple #[.int .i64 0,.bool false]) W):=lh (fun W h=>⟨(HWF.out.below h.1).1.c2.2,h.2.c5.2.2.2.1,(h.1.cell (p:=⟨b3,o3,none⟩) hb3).trans HX3.out,by
        have:=((HWF.out.below h.1).lk hfz).1
        rw [hx] at this
        exact this⟩)
       clear hx HOW x3
       go_wp2_with fail
       go_region_held3 (fun W=>W.cell? ⟨g,1,none⟩=some (.map (some m))∧W.cell? ⟨wr.heap.size,3,none⟩=some (.slice (some ⟨b3,o3,none⟩) FF.1.length c2)∧W.cell? ⟨b3,o3,none⟩=some (.string nm)∧(Instr.lookup 64 (.map (some m)) (.string nm) true).run Tryz.prog W=.ok (.tuple #[.int .i64 0,.bool false]) W)
        (exact HK.out _ (HQ2.go (by repeat (first|with_reducible exact Below.refl _ _|with_reducible apply Below.drew|with_reducible apply below_drewN|with_reducible apply below_al))).out) (fail)
       replace HQ2:=HQ2.go (show Below _ _ ((wr.alloc (.cells #[.int .i64 3,.slice B PP.1.length d,.bool PP.2,.slice (some ⟨b3,o3,none⟩) FF.1.length c2,.bool FF.2] 51)).drew) from bB)
       clear HK HBX
       obtain ⟨x0,x1,x2,x5,x6⟩:=HQ2.out.2.c5
       have hxl:=HQ2.out.2.2.2
       go_wp2_with fail
       obtain ⟨wt,rfl⟩:∃ wt,wt=wr:=⟨wr,rfl⟩
       go_loopw [90] (fun s90 wr=>∃ r:Nat,r≤n5∧s90=.int .i64 r∧Hid (Below wt.heap.size wt wr∧BX wr wt.heap.size [.int .i64 3,.slice B PP.1.length d,.bool PP.2,.slice (some ⟨b3,o3,none⟩) FF.1.length c2,.bool FF.2])∧Hid ((acc.take r).any (metO FF)=false)) (fun s90 _=>n5-(intOf s90).toNat)
       case atStart=>exact ⟨0,Nat.zero_le _,rfl,lh (HQ2.go bB).out,lh (by simp)⟩
       case round =>
        obtain ⟨r,hr,rfl,HW,HM⟩:=hrel
        clear x0 x1 x2 x5 x6 y0 y1 hxl
        obtain ⟨x0,x1,x2,x5,x6⟩:=HW.out.2.c5
        have hxl:=HW.out.2.2.2
        by_cases hrl:r<n5
        ·obtain ⟨q,hq⟩:∃ q,acc[r]? = some q:=⟨_,gE (by rw [←HN.out];exact hrl)⟩
         obtain ⟨b4,o4,C,n,rfl,hb4,f0,f1,hrt⟩:=((so_read HQ.out.1).below HW.out.1).pn hq
         have hqz:=HO.out q (mG hq)
         have HME:=lh (fun W (hW:Below wr.heap.size wr W)=>meet_anyF (some ⟨b3,o3,none⟩) C c2 n FF.1 q.1 FF.2 q.2 W ((HRT.out.below HW.out.1).below hW) (hrt.below hW) (fun x hx=>Nat.le_trans (HPZ.out.2 x hx) (by omega)) (fun x hx=>Nat.le_trans (hqz x hx) (by omega)))
         cases hm:metO FF q with
         | true =>
          have HM2:=lh (fun W h=>(HME.out W h).mono fun _ _ h=>h.1 (show meetOk FF.1 q.1 FF.2 q.2=true from hm))
          have HR:Hid (badL l i os s.2.2=true):=lh (by rw [HBD.out,HDR.out];exact badL_met rfl (mG hq) hm)
          clear hq hm hqz hrt HME
          go_wp2_with (go_at_call 58;refine (HM2.out _ bB).mono ?_;rintro e w7 ⟨C7,n7,rfl,-,hb7⟩;have HB7:=lh (go3 HW.out.1 (go3 (show Below wr.heap.size wr _ from bB) hb7));clear hb7)
          go_ret
          exact RetE.of (HE.out.trans (if_pos HR.out)) rfl (go3 HB1.out (go3 HQ.out.2 (go3 HB7.out bB)))
         | false =>
          have HM2:=lh (fun W h=>(HME.out W h).mono fun _ _ h=>h.2 (show meetOk FF.1 q.1 FF.2 q.2=false from hm))
          have HN2:=lh (any_take hq HM.out hm)
          clear hq hm hqz hrt HME HM
          go_wp2_with (go_at_call 58;refine (HM2.out _ bB).mono ?_;rintro e w7 ⟨C7,n7,rfl,-,hb7⟩;have HB7:=lh (go3 (show Below wr.heap.size wr _ from bB) hb7);clear hb7)
          go_roundw
          case rel=>exact ⟨r+1,by omega,by go_num,lh ⟨go3 HW.out.1 (go3 HB7.out bB),HW.out.2.below (go3 HB7.out bB)⟩,HN2⟩
          case measure=>simp [intOf];omega
        ·obtain rfl:r=n5:=by omega
         have HB2:Hid (badL l i os s.2.2=badL l i (acc++[FF]) (s.2.2.drop (j+1))):=lh (by
          have h1:=HM.out
          rw [HN.out,List.take_length] at h1
          rw [HBD.out,HDR.out]
          exact badL_go rfl HOT.out h1)
         go_wp2_with (at_builtin;refine wpList_append_so1 elP elPT rfl _ _ rfl w1.heap.size _ kN acc FF [.slice (some ⟨b3,o3,none⟩) FF.1.length c2,.bool FF.2] wr.heap.size 1 rfl rfl ((HQ.out.1.below HW.out.1).below bB) ⟨some ⟨b3,o3,none⟩,c2,rfl,(HRT.out.below HW.out.1).below bB⟩ (cells_new _ [_,_] _ (by simp)) (by simp) (by omega) (by omega) (by have:=HN.out;omega) (by have:=(go3 HQ.out.2 HW.out.1).size;simp;omega) ?_;intro v8 w8 hso8 hg8 hor8;obtain ⟨A8,n8,c8,rfl,hn8l⟩:=so_shape hso8;have HSO8:=lh hso8;have HB8:=lh ((go3 (go3 HQ.out.2 HW.out.1) (show Below wr.heap.size wr _ from bB)).grown hg8 (Nat.le_trans (go3 HQ.out.2 HW.out.1).size (by simp)) (fun j hj=>(HQ.out.1.own j hj).1));clear hso8 hg8 hor8)
         have e8:=hn8l.out
         rw [List.length_append,← HN.out] at e8
         simp only [List.length_cons,List.length_nil,Nat.zero_add] at e8
         go_roundw
         case rel=>exact ⟨j+1,n8,A8,c8,acc++[FF],by omega,by go_num,rfl,by omega,hn8l,lh ⟨HSO8.out,HB8.out⟩,lh (HO.out.app (fun q hq=>by rw [List.mem_singleton.1 hq];exact HPZ.out.2)),HB2⟩
         case measure=>simp [intOf];omega
      | some j2 =>
       have hj2:=idxS_lt hx
       have HOT0:Hid (ownT l i FF=(topS l j2==topS l i)):=lh (by rw [HOW.out,hx])
       have HK:Hid (∀ W,(Below wr.heap.size wr W∧BX W wr.heap.size [.int .i64 3,.slice B PP.1.length d,.bool PP.2,.slice (some ⟨b3,o3,none⟩) FF.1.length c2,.bool FF.2])→W.cell? ⟨g,1,none⟩=some (.map (some m))∧W.cell? ⟨wr.heap.size,3,none⟩=some (.slice (some ⟨b3,o3,none⟩) FF.1.length c2)∧W.cell? ⟨b3,o3,none⟩=some (.string nm)∧(Instr.lookup 64 (.map (some m)) (.string nm) true).run Tryz.prog W=.ok (.tuple #[.int .i64 (j2:Int),.bool true]) W):=lh (fun W h=>⟨(HWF.out.below h.1).1.c2.2,h.2.c5.2.2.2.1,(h.1.cell (p:=⟨b3,o3,none⟩) hb3).trans HX3.out,by
        have:=((HWF.out.below h.1).lk hfz).1
        rw [hx] at this
        exact this⟩)
       have HBW:Hid (∀ W,Below wr.heap.size wr W→Below w.heap.size w W):=lh (fun W h=>go3 HB1.out (go3 HQ.out.2 h))
       clear hx HOW x3
       go_wp2_with fail
       go_region_held3 (fun W=>W.cell? ⟨g,1,none⟩=some (.map (some m))∧W.cell? ⟨wr.heap.size,3,none⟩=some (.slice (some ⟨b3,o3,none⟩) FF.1.length c2)∧W.cell? ⟨b3,o3,none⟩=some (.string nm)∧(Instr.lookup 64 (.map (some m)) (.string nm) true).run Tryz.prog W=.ok (.tuple #[.int .i64 (j2:Int),.bool true]) W)
        (exact HK.out _ (HQ2.go (by repeat (first|with_reducible exact Below.refl _ _|with_reducible apply Below.drew|with_reducible apply below_drewN|with_reducible apply below_al))).out) (fail)
       replace HQ2:=HQ2.go (show Below _ _ ((wr.alloc (.cells #[.int .i64 3,.slice B PP.1.length d,.bool PP.2,.slice (some ⟨b3,o3,none⟩) FF.1.length c2,.bool FF.2] 51)).drew) from bB)
       clear HK HBX
       have HT1:=lh (fun W (hW:Below w.heap.size w W)=>HTP.out j2 hj2 W hW)
       have HT2:=lh (fun W (hW:Below w.heap.size w W)=>HTP.out i hi W hW)
       by_cases htp:topS l j2=topS l i
       ·have HR:Hid (badL l i os s.2.2=true):=lh (by rw [HBD.out,HDR.out];exact badL_own rfl (by rw [HOT0.out];simpa using htp))
        rw [htp] at HT1
        generalize topS l i=T at *
        clear htp HOT0
        go_wp2_with (first
         | (go_at_call 142;refine (HT1.out _ (HBW.out _ (HQ2.go bB).out.1)).mono ?_;rintro e w4 ⟨rfl,hb4⟩;replace HQ2:=HQ2.go2 bB hb4;clear hb4 HT1)
         | (go_at_call 142;refine (HT2.out _ (HBW.out _ (HQ2.go bB).out.1)).mono ?_;rintro e w5 ⟨rfl,hb5⟩;replace HQ2:=HQ2.go2 bB hb5;clear hb5 HT2))
        go_ret
        exact RetE.of (HE.out.trans (if_pos HR.out)) rfl (HBW.out _ (HQ2.go bB).out.1)
       ·have HOT:Hid (ownT l i FF=false):=lh (by rw [HOT0.out];simpa using htp)
        have htb:(((topS l j2:Nat):Int)==((topS l i:Nat):Int))=false:=by simp;omega
        have htb2:(topS l j2==topS l i)=false:=by simpa using htp
        generalize topS l j2=T1 at *
        generalize topS l i=T2 at *
        clear htp HOT0
        go_wp2_with (first
         | (go_at_call 142;refine (HT1.out _ (HBW.out _ (HQ2.go bB).out.1)).mono ?_;rintro e w4 ⟨rfl,hb4⟩;replace HQ2:=HQ2.go2 bB hb4;clear hb4 HT1)
         | (go_at_call 142;refine (HT2.out _ (HBW.out _ (HQ2.go bB).out.1)).mono ?_;rintro e w5 ⟨rfl,hb5⟩;replace HQ2:=HQ2.go2 bB hb5;clear hb5 HT2))
        obtain ⟨x0,x1,x2,x5,x6⟩:=HQ2.out.2.c5
        have hxl:=HQ2.out.2.2.2
        go_wp2_with fail
        obtain ⟨wt,rfl⟩:∃ wt,wt=wr:=⟨wr,rfl⟩
        go_loopw [90] (fun s90 wr=>∃ r:Nat,r≤n5∧s90=.int .i64 r∧Hid (Below wt.heap.size wt wr∧BX wr wt.heap.size [.int .i64 3,.slice B PP.1.length d,.bool PP.2,.slice (some ⟨b3,o3,none⟩) FF.1.length c2,.bool FF.2])∧Hid ((acc.take r).any (metO FF)=false)) (fun s90 _=>n5-(intOf s90).toNat)
        case atStart=>exact ⟨0,Nat.zero_le _,rfl,lh (HQ2.go bB).out,lh (by simp)⟩
        case round =>
         obtain ⟨r,hr,rfl,HW,HM⟩:=hrel
         clear x0 x1 x2 x5 x6 y0 y1 hxl
         obtain ⟨x0,x1,x2,x5,x6⟩:=HW.out.2.c5
         have hxl:=HW.out.2.2.2
         by_cases hrl:r<n5
         ·obtain ⟨q,hq⟩:∃ q,acc[r]? = some q:=⟨_,gE (by rw [←HN.out];exact hrl)⟩
          obtain ⟨b4,o4,C,n,rfl,hb4,f0,f1,hrt⟩:=((so_read HQ.out.1).below HW.out.1).pn hq
          have hqz:=HO.out q (mG hq)
          have HME:=lh (fun W (hW:Below wr.heap.size wr W)=>meet_anyF (some ⟨b3,o3,none⟩) C c2 n FF.1 q.1 FF.2 q.2 W ((HRT.out.below HW.out.1).below hW) (hrt.below hW) (fun x hx=>Nat.le_trans (HPZ.out.2 x hx) (by omega)) (fun x hx=>Nat.le_trans (hqz x hx) (by omega)))
          cases hm:metO FF q with
          | true =>
           have HM2:=lh (fun W h=>(HME.out W h).mono fun _ _ h=>h.1 (show meetOk FF.1 q.1 FF.2 q.2=true from hm))
           have HR:Hid (badL l i os s.2.2=true):=lh (by rw [HBD.out,HDR.out];exact badL_met rfl (mG hq) hm)
           clear hq hm hqz hrt HME
           go_wp2_with (go_at_call 58;refine (HM2.out _ bB).mono ?_;rintro e w7 ⟨C7,n7,rfl,-,hb7⟩;have HB7:=lh (go3 HW.out.1 (go3 (show Below wr.heap.size wr _ from bB) hb7));clear hb7)
           go_ret
           exact RetE.of (HE.out.trans (if_pos HR.out)) rfl (go3 HB1.out (go3 HQ.out.2 (go3 HB7.out bB)))
          | false =>
           have HM2:=lh (fun W h=>(HME.out W h).mono fun _ _ h=>h.2 (show meetOk FF.1 q.1 FF.2 q.2=false from hm))
           have HN2:=lh (any_take hq HM.out hm)
           clear hq hm hqz hrt HME HM
           go_wp2_with (go_at_call 58;refine (HM2.out _ bB).mono ?_;rintro e w7 ⟨C7,n7,rfl,-,hb7⟩;have HB7:=lh (go3 (show Below wr.heap.size wr _ from bB) hb7);clear hb7)
           go_roundw
           case rel=>exact ⟨r+1,by omega,by go_num,lh ⟨go3 HW.out.1 (go3 HB7.out bB),HW.out.2.below (go3 HB7.out bB)⟩,HN2⟩
           case measure=>simp [intOf];omega
         ·obtain rfl:r=n5:=by omega
          have HB2:Hid (badL l i os s.2.2=badL l i (acc++[FF]) (s.2.2.drop (j+1))):=lh (by
           have h1:=HM.out
           rw [HN.out,List.take_length] at h1
           rw [HBD.out,HDR.out]
           exact badL_go rfl HOT.out h1)
          go_wp2_with (at_builtin;refine wpList_append_so1 elP elPT rfl _ _ rfl w1.heap.size _ kN acc FF [.slice (some ⟨b3,o3,none⟩) FF.1.length c2,.bool FF.2] wr.heap.size 1 rfl rfl ((HQ.out.1.below HW.out.1).below bB) ⟨some ⟨b3,o3,none⟩,c2,rfl,(HRT.out.below HW.out.1).below bB⟩ (cells_new _ [_,_] _ (by simp)) (by simp) (by omega) (by omega) (by have:=HN.out;omega) (by have:=(go3 HQ.out.2 HW.out.1).size;simp;omega) ?_;intro v8 w8 hso8 hg8 hor8;obtain ⟨A8,n8,c8,rfl,hn8l⟩:=so_shape hso8;have HSO8:=lh hso8;have HB8:=lh ((go3 (go3 HQ.out.2 HW.out.1) (show Below wr.heap.size wr _ from bB)).grown hg8 (Nat.le_trans (go3 HQ.out.2 HW.out.1).size (by simp)) (fun j hj=>(HQ.out.1.own j hj).1));clear hso8 hg8 hor8)
          have e8:=hn8l.out
          rw [List.length_append,← HN.out] at e8
          simp only [List.length_cons,List.length_nil,Nat.zero_add] at e8
          go_roundw
          case rel=>exact ⟨j+1,n8,A8,c8,acc++[FF],by omega,by go_num,rfl,by omega,hn8l,lh ⟨HSO8.out,HB8.out⟩,lh (HO.out.app (fun q hq=>by rw [List.mem_singleton.1 hq];exact HPZ.out.2)),HB2⟩
          case measure=>simp [intOf];omega
     ·have hkb:(kd != 3)=true:=by simpa using hk3
      have HB2:Hid (badL l i os s.2.2=badL l i acc (s.2.2.drop (j+1))):=lh (by rw [HBD.out,HDR.out];exact badL_skip hk3)
      clear hk3
      go_wp2_with fail
      go_roundw
      case rel=>exact ⟨j+1,n5,A5,c5,acc,by omega,by go_num,rfl,by omega,HN,lh ⟨HQ.out.1.below bB,go3 HQ.out.2 (show Below wr.heap.size wr _ from bB)⟩,HO,HB2⟩
      case measure=>simp [intOf];omega
    ·obtain rfl:j=s.2.2.length:=by omega
     have HR:Hid (badL l i os s.2.2=false):=lh (by rw [HBD.out,List.drop_length];rfl)
     go_wp2_with fail
     go_ret
     exact RetE.of (HE.out.trans (if_neg (by rw [HR.out];decide))) rfl (go3 HB1.out HQ.out.2)
end Go.Proofs.YtelkmeiepliecaaGreatDoor
