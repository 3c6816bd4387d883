/-
  Part 33 of the proof.
-/
import Derived.Test.YtelkmeiepliecaaGreatDoorU32
set_option linter.unusedSimpArgs false
set_option linter.unusedVariables false
set_option maxHeartbeats 16000000
namespace Go.Proofs.YtelkmeiepliecaaGreatDoor
open Pm
open Go.RowKit Go.WideShapes
def SzS (l:List St):Prop:=∀ s∈l,(s.1.size≤100∧s.2.1.size≤100)∧s.2.2.length≤15∧∀ p∈s.2.2,szN 40 p.2.1∧szN 40 p.2.2
theorem SzS.nm {l:List St} (h:SzS l):NmOk l:=fun s hs=>by have:=(h s hs).1;omega
theorem szN_up {m n:Nat} {p:Pn} (h:szN m p) (hm:m≤n):szN n p:=fun x hx=>Nat.le_trans (h x hx) hm
set_option maxRecDepth 100000 in
theorem missing_any (g m:Nat) (A:Option Addr) (c:Nat) (l:List St) (i:Nat) (w:World) (h:FO w g m A c l) (hi:i<l.length) (hl:l.length≤100) (hn:NmOk l) :
 Calls Tryz.prog 116 #[.pointer (some ⟨g,0,none⟩),.int .i64 i] w fun e w'=>e=.returned (.int .i64 (misE l i))∧Below w.heap.size w w':=by
 obtain ⟨s,hs⟩:∃ s,l[i]? = some s:=⟨_,gE hi⟩
 have HPR:=lh (parent_any g m A c l i w h hi hl hn)
 have HFO:=lh h
 have q1:=h.2.1.1
 have q2:=h.2.1.2.1
 have HM:Hid (misE l i=if s.2.1.size≠0∧idxS l s.2.1=none then 83 else 0):=lh (by unfold misE;rw [hs])
 have HP:Hid (parS l i=if s.2.1.size=0 then none else idxS l s.2.1):=lh (by unfold parS;rw [hs])
 have HS:=lh hs
 rw [HM.out]
 clear h hn hs HM
 by_cases h0:s.2.1.size=0
 ·rw [if_neg (fun h=>h.1 h0)]
  have he:(s.2.1.toList.isEmpty)=true:=by rw [empty_iff];simpa using h0
  have he2:(!s.2.1.toList.isEmpty)=false:=by rw [he];rfl
  have HR:Hid (parS l i=none):=lh (by rw [HP.out,if_pos h0])
  rw [HR.out] at HPR
  clear HP HR h0
  go_enter Tryz.func116,Tryz.ntmps116
  go_wp2_with (go_at_call 51;refine HPR.out.mono ?_;rintro e w1 ⟨rfl,hb1⟩;obtain ⟨y0,y1⟩:=(HFO.out.below hb1).1.c2;have y2:=(HFO.out.below hb1).1.2.2;obtain ⟨b,o,P,n,rfl,hbw,x0,x1,x2,-⟩:=(HFO.out.below hb1).2.1.at_ HS.out;have HB:=lh hb1;clear hb1)
  all_goals go_ret
  all_goals exact ⟨rfl,HB.out⟩
 ·have he:(s.2.1.toList.isEmpty)=false:=by rw [empty_iff];simpa using h0
  have he2:(!s.2.1.toList.isEmpty)=true:=by rw [he];rfl
  have HR:Hid (parS l i=idxS l s.2.1):=lh (by rw [HP.out,if_neg h0])
  rw [HR.out] at HPR
  cases hx:idxS l s.2.1 with
  | none =>
   rw [if_pos ⟨h0,rfl⟩]
   rw [hx] at HPR
   clear HP HR h0 hx
   go_enter Tryz.func116,Tryz.ntmps116
   go_wp2_with (go_at_call 51;refine HPR.out.mono ?_;rintro e w1 ⟨rfl,hb1⟩;obtain ⟨y0,y1⟩:=(HFO.out.below hb1).1.c2;have y2:=(HFO.out.below hb1).1.2.2;obtain ⟨b,o,P,n,rfl,hbw,x0,x1,x2,-⟩:=(HFO.out.below hb1).2.1.at_ HS.out;have HB:=lh hb1;clear hb1)
   all_goals go_ret
   all_goals exact ⟨rfl,HB.out⟩
  | some j =>
   rw [if_neg (fun h=>by cases h.2)]
   rw [hx] at HPR
   clear HP HR h0 hx
   go_enter Tryz.func116,Tryz.ntmps116
   go_wp2_with (go_at_call 51;refine HPR.out.mono ?_;rintro e w1 ⟨rfl,hb1⟩;have HB:=lh hb1;clear hb1)
   all_goals go_ret
   all_goals exact ⟨rfl,HB.out⟩
set_option maxRecDepth 100000 in
theorem deep_any (g m:Nat) (A:Option Addr) (c:Nat) (l:List St) (i:Nat) (w:World) (h:FO w g m A c l) (hi:i<l.length) (hl:l.length≤100) (hn:NmOk l) :
 Calls Tryz.prog 118 #[.pointer (some ⟨g,0,none⟩),.int .i64 i] w fun e w'=>e=.returned (.int .i64 (depE l i))∧Below w.heap.size w w':=by
 have HAB:=lh (above_any g m A c l i w h hi hl hn)
 have hln:(abvS l i).length≤100:=Nat.le_trans (abvF_len _ _) hl
 unfold depE
 generalize abvS l i=L at *
 clear h hn
 by_cases h6:6<1+L.length
 ·rw [if_pos h6]
  have hi1:decide ((6:Int)<1+(L.length:Int))=true:=by simp;omega
  go_enter Tryz.func118,Tryz.ntmps118
  go_wp2_with (go_at_call 20;refine HAB.out.mono ?_;rintro e w1 ⟨A1,c1,rfl,-,hb1⟩;have HB:=lh hb1;clear hb1)
  all_goals go_ret
  all_goals exact ⟨rfl,HB.out⟩
 ·rw [if_neg h6]
  have hi1:decide ((6:Int)<1+(L.length:Int))=false:=by simp;omega
  go_enter Tryz.func118,Tryz.ntmps118
  go_wp2_with (go_at_call 20;refine HAB.out.mono ?_;rintro e w1 ⟨A1,c1,rfl,-,hb1⟩;have HB:=lh hb1;clear hb1)
  all_goals go_ret
  all_goals exact ⟨rfl,HB.out⟩
def RetE (w:World) (n:Int) (e:Ending) (w':World):Prop:=e=.returned (.int .i64 n)∧Below w.heap.size w w'
theorem RetE.of {w w':World} {n k:Int} {e:Ending} (h:n=k) (he:e=.returned (.int .i64 k)) (hb:Below w.heap.size w w'):RetE w n e w':=⟨by rw [h];exact he,hb⟩
set_option maxRecDepth 100000 in
theorem cycle_any (g m:Nat) (A:Option Addr) (c:Nat) (l:List St) (i:Nat) (w:World) (h:FO w g m A c l) (hi:i<l.length) (hl:l.length≤100) (hn:NmOk l) :
 Calls Tryz.prog 117 #[.pointer (some ⟨g,0,none⟩),.int .i64 i] w (RetE w (cycE l i)):=by
 have HAB:=lh (fun W (hW:Below w.heap.size w W)=>above_any g m A c l i W (h.below hW) hi hl hn)
 have hln:(abvS l i).length≤100:=Nat.le_trans (abvF_len _ _) hl
 have HE:Hid (cycE l i=if (abvS l i).any (·==i)=true then 84 else 0):=lh rfl
 generalize abvS l i=L at *
 clear h hn
 go_enter Tryz.func117,Tryz.ntmps117
 go_wp2_with (go_at_call 20;refine (HAB.out _ bB).mono ?_;rintro e w1 ⟨A1,c1,rfl,hsv,hb1⟩;have HB1:=lh hb1;have HSV:=lh hsv;have q1:=hsv.lenc;have q2:=hsv.capc;clear hb1 hsv)
 go_loopw [11] (fun s wr=>∃ k:Nat,k≤L.length∧s=.int .i64 k∧Hid (Below w.heap.size w wr∧Below w1.heap.size w1 wr)∧Hid ((L.take k).any (·==i)=false)) (fun s _=>L.length-(intOf s).toNat)
 case atStart=>exact ⟨0,Nat.zero_le _,rfl,lh ⟨HB1.out,Below.refl _ _⟩,lh (by simp)⟩
 case round =>
  obtain ⟨k,hk,rfl,HB,HN⟩:=hrel
  by_cases hlt:k<L.length
  ·obtain ⟨x,hx⟩:∃ x,L[k]? = some x:=⟨_,gE hlt⟩
   obtain ⟨b,o,rfl,hbw,x0⟩:=(HSV.out.below HB.out.2).nat hx
   by_cases hxi:x=i
   ·have HR:Hid (L.any (·==i)=true):=lh (List.any_eq_true.2 ⟨x,mG hx,by simpa using hxi⟩)
    subst hxi
    clear hx
    go_wp2_with fail
    go_ret
    exact RetE.of (HE.out.trans (if_pos HR.out)) rfl HB.out.1
   ·have HN2:Hid ((L.take (k+1)).any (·==i)=false):=lh (by
     rw [List.take_add_one,hx,List.any_append,HN.out]
     simpa using hxi)
    have hb:(((x:Nat):Int)==(i:Int))=false:=by simp;omega
    clear hx hxi HN
    go_wp2_with fail
    go_roundw
    case rel=>exact ⟨k+1,by omega,by go_num,HB,HN2⟩
    case measure=>simp [intOf];omega
  ·obtain rfl:k=L.length:=by omega
   have HR:Hid (L.any (·==i)=false):=lh (by have:=HN.out;rwa [List.take_length] at this)
   go_wp2_with fail
   go_ret
   exact RetE.of (HE.out.trans (if_neg (by rw [HR.out];decide))) rfl HB.out.1
theorem idxS_le {l:List St} {i:Nat} {s:St} (hs:l[i]? = some s):∃ j,idxS l s.1=some j∧j≤i:=by
 have hi:=(sI.1 hs).1
 cases hj:idxS l s.1 with
 | none =>
  exfalso
  have:=List.findIdx?_eq_none_iff.1 hj s (mG hs)
  simp at this
 | some j =>
  refine ⟨j,rfl,Nat.le_of_not_lt fun hlt=>?_⟩
  obtain ⟨_,_,h3⟩:=List.findIdx?_eq_some_iff_getElem.1 hj
  have:=h3 i hlt
  rw [(sI.1 hs).2] at this
  simp at this
theorem box3 (w:World) (a b c:Value) (T:TypeId):BX (w.alloc (.cells #[a,b,c] T)) w.heap.size [a,b,c]:=BX.new w [a,b,c] T rfl
set_option maxRecDepth 100000 in
theorem itself_any (g m:Nat) (A:Option Addr) (c:Nat) (l:List St) (i:Nat) (w:World) (h:FO w g m A c l) (hi:i<l.length) (hl:l.length≤100) (hz:SzS l) (hm:ML w) :
 Calls Tryz.prog 115 #[.pointer (some ⟨g,0,none⟩),.int .i64 i] w (RetE w (itsE l i)):=by
 obtain ⟨s,hs⟩:∃ s,l[i]? = some s:=⟨_,gE hi⟩
 obtain ⟨b,o,P,n,rfl,hbw,x0,x1,x2,hsv⟩:=h.2.1.at_ hs
 obtain ⟨y0,y1⟩:=h.1.c2
 have hgw:=h.1.2.2
 have hsz:=hz s (mG hs)
 have HSZ:=lh hsz.2.2
 have q1:=h.2.1.1
 have q2:=h.2.1.2.1
 have q3:=hsv.lenc
 have q4:=hsv.capc
 have hs1:s.1.size≤9223372036854775807:=by omega
 have hp15:=hsz.2.1
 have HE:Hid (itsE l i=if nameOk s.1=false then 81 else if (idxS l s.1).getD 0<i then 82 else if s.2.2.any (fun p=>!lineOk p)=true then 85 else if 12<s.2.2.length then 80 else 0):=lh (by unfold itsE;rw [hs])
 obtain ⟨j,hj,hji⟩:=idxS_le hs
 have HQ:At (fun W=>FO W g m (some ⟨b,o,none⟩) c l∧BX W w.heap.size [.string s.1,.string s.2.1,.slice P s.2.2.length n]∧SV elL W kN P n s.2.2∧ML W∧Below w.heap.size w W) (w.alloc (.cells #[.string s.1,.string s.2.1,.slice P s.2.2.length n] 54)) :=
  ⟨fun X Y h hb=>⟨h.1.below hb,h.2.1.below hb,h.2.2.1.below hb,h.2.2.2.1.below hb,go3 h.2.2.2.2 hb⟩,h.below (ba _ _),box3 _ _ _ _ _,hsv.below (ba _ _),hm.below (ba _ _),ba _ _⟩
 have HN:Hid (nameOk s.1=(comp s.1.data.toList&&decide (s.1.size≤24)&&!decide (s.1=viewN))):=lh rfl
 have hve:=view_eq s.1
 have HCO:=lh (fun W=>component_any s.1 W hs1)
 obtain ⟨a0,a1,a2⟩:=HQ.out.2.1.c3
 have hlz:s.1.toList.length=s.1.size:=by rw [Lib.toList_data,Lib.size_eq]
 have hls:=hsz.1.1
 clear h hsv hs hm hsz hz
 cases hc:comp s.1.data.toList with
 | false =>
  have HR81:Hid (itsE l i=81):=lh (HE.out.trans (if_pos (by rw [HN.out,hc];rfl)))
  rw [hc] at HCO
  go_enter Tryz.func115,Tryz.ntmps115
  go_wp2_with (go_at_call 93;refine (HCO.out _).mono ?_;rintro e w1 ⟨rfl,rfl⟩)
  all_goals go_ret
  all_goals exact RetE.of HR81.out rfl (HQ.go bB).out.2.2.2.2
 | true =>
  rw [hc] at HCO HN
  rw [Bool.true_and] at HN
  by_cases h24:s.1.size≤24
  ·rw [decide_eq_true h24,Bool.true_and] at HN
   have hi1:decide ((24:Int)<(s.1.size:Int))=false:=by simp;omega
   by_cases hv:s.1=viewN
   ·have HR81:Hid (itsE l i=81):=lh (HE.out.trans (if_pos (by rw [HN.out,decide_eq_true hv];rfl)))
    rw [decide_eq_true hv] at hve
    clear hc HE HN hv
    go_enter Tryz.func115,Tryz.ntmps115
    go_wp2_with (go_at_call 93;refine (HCO.out _).mono ?_;rintro e w1 ⟨rfl,rfl⟩)
    all_goals go_ret
    all_goals exact RetE.of HR81.out rfl (HQ.go bB).out.2.2.2.2
   ·have hnk:nameOk s.1=true:=by rw [HN.out,decide_eq_false hv];rfl
    have HE2:Hid (itsE l i=if j<i then 82 else if s.2.2.any (fun p=>!lineOk p)=true then 85 else if 12<s.2.2.length then 80 else 0):=lh (by rw [HE.out,if_neg (by rw [hnk];decide),hj];rfl)
    rw [decide_eq_false hv] at hve
    have HK:Hid (∀ W,(FO W g m (some ⟨b,o,none⟩) c l∧BX W w.heap.size [.string s.1,.string s.2.1,.slice P s.2.2.length n]∧SV elL W kN P n s.2.2∧ML W∧Below w.heap.size w W)→W.cell? ⟨g,1,none⟩=some (.map (some m))∧W.cell? ⟨w.heap.size,0,none⟩=some (.string s.1)∧(Instr.lookup 64 (.map (some m)) (.string s.1) false).run Tryz.prog W=.ok (.int .i64 (j:Int)) W):=lh (fun W h=>⟨h.1.1.c2.2,h.2.1.c3.1,by
     have:=(h.1.lk hs1).2
     rw [hj] at this
     exact this⟩)
    clear hc HE HN hv hnk hj
    go_enter Tryz.func115,Tryz.ntmps115
    go_upto_region 4 with (go_at_call 93;refine (HCO.out _).mono ?_;rintro e w1 ⟨rfl,rfl⟩)
    by_cases hlt:j<i
    ·have hi2:decide ((j:Int)<(i:Int))=true:=by simpa using hlt
     have hi2n:decide (j<i)=true:=by simpa using hlt
     go_region_held3 (fun W=>W.cell? ⟨g,1,none⟩=some (.map (some m))∧W.cell? ⟨w.heap.size,0,none⟩=some (.string s.1)∧(Instr.lookup 64 (.map (some m)) (.string s.1) false).run Tryz.prog W=.ok (.int .i64 (j:Int)) W)
      (exact HK.out _ (HQ.go (by repeat (first|with_reducible exact Below.refl _ _|with_reducible apply Below.drew|with_reducible apply below_drewN|with_reducible apply below_al))).out) (fail)
     all_goals
      go_wp2_with fail
      go_ret
      exact RetE.of (HE2.out.trans (if_pos hlt)) rfl (HQ.go bB).out.2.2.2.2
    ·have hi2:decide ((j:Int)<(i:Int))=false:=by simpa using hlt
     have hi2n:decide (j<i)=false:=by simpa using hlt
     have HLT:=lh hlt
     clear hlt
     go_region_held3 (fun W=>W.cell? ⟨g,1,none⟩=some (.map (some m))∧W.cell? ⟨w.heap.size,0,none⟩=some (.string s.1)∧(Instr.lookup 64 (.map (some m)) (.string s.1) false).run Tryz.prog W=.ok (.int .i64 (j:Int)) W)
      (exact HK.out _ (HQ.go (by repeat (first|with_reducible exact Below.refl _ _|with_reducible apply Below.drew|with_reducible apply below_drewN|with_reducible apply below_al))).out) (fail)
     replace HQ:=HQ.go (show Below _ _ ((w.alloc (.cells #[.string s.1,.string s.2.1,.slice P s.2.2.length n] 54)).drew) from bB)
     clear a0 a1 a2
     obtain ⟨a0,a1,a2⟩:=HQ.out.2.1.c3
     have hl0:=HQ.out.2.1.2.2
     go_wp2_with fail
     go_loopw [42] (fun v wr=>∃ k:Nat,k≤s.2.2.length∧v=.int .i64 k∧Hid (BX wr w.heap.size [.string s.1,.string s.2.1,.slice P s.2.2.length n]∧SV elL wr kN P n s.2.2∧ML wr∧Below w.heap.size w wr)∧Hid (∀ q∈s.2.2.take k,lineOk q=true)) (fun v _=>s.2.2.length-(intOf v).toNat)
     case atStart=>exact ⟨0,Nat.zero_le _,rfl,lh HQ.out.2,lh (fun q hq=>by cases hq)⟩
     case round =>
      obtain ⟨k,hk,rfl,HW,HO⟩:=hrel
      by_cases hlt:k<s.2.2.length
      ·obtain ⟨q,hq⟩:∃ q,s.2.2[k]? = some q:=⟨_,gE hlt⟩
       obtain ⟨b2,o2,B,d,A2,c2,rfl,hb2,z0,z1,z2,z3,z4,k1,k2⟩:=HW.out.2.1.ln hq
       have hqs:=HSZ.out q (mG hq)
       have HIP:=lh (fun W (hW:Below wr.heap.size wr W)=>isPathLine_any q B A2 d c2 W (k1.below hW) (k2.below hW) (szN_up hqs.1 (by omega)) (szN_up hqs.2 (by omega)) (HW.out.2.2.1.below hW))
       have hwl:=HW.out.1.2.2
       cases hok:lineOk q with
       | false =>
        have HR:Hid (s.2.2.any (fun p=>!lineOk p)=true):=lh (List.any_eq_true.2 ⟨q,mG hq,by rw [hok];rfl⟩)
        rw [hok] at HIP
        clear hq hok k1 k2 hqs
        go_wp2_with (go_at_call 141;refine (HIP.out _ bB).mono ?_;rintro e w5 ⟨rfl,hb5⟩;have HB5:=lh (go3 HW.out.2.2.2 (go3 (ba _ _) hb5));clear hb5)
        go_ret
        exact RetE.of (HE2.out.trans ((if_neg HLT.out).trans (if_pos HR.out))) rfl HB5.out
       | true =>
        have HO2:Hid (∀ x∈s.2.2.take (k+1),lineOk x=true):=lh (fun x hx=>by
         rw [List.take_add_one,hq] at hx
         rcases List.mem_append.1 hx with hx|hx
         ·exact HO.out x hx
         ·have hx2:x=q:=by simpa using hx
          rw [hx2];exact hok)
        rw [hok] at HIP
        clear hq hok k1 k2 hqs HO
        go_wp2_with (go_at_call 141;refine (HIP.out _ bB).mono ?_;rintro e w5 ⟨rfl,hb5⟩;have HB5:=lh (go3 (ba wr _) hb5);clear hb5)
        go_roundw
        case rel =>
         exact ⟨k+1,by omega,by go_num,lh ⟨HW.out.1.below HB5.out,HW.out.2.1.below HB5.out,HW.out.2.2.1.below HB5.out,go3 HW.out.2.2.2 HB5.out⟩,HO2⟩
        case measure=>simp [intOf];omega
      ·obtain rfl:k=s.2.2.length:=by omega
       have HR:Hid (s.2.2.any (fun p=>!lineOk p)=false):=lh (by
        rw [List.any_eq_false]
        intro q hq
        have:=HO.out q (by rw [List.take_length];exact hq)
        rw [this]
        decide)
       obtain ⟨e0,e1,e2⟩:=HW.out.1.c3
       by_cases h12:12<s.2.2.length
       ·have hi3:decide ((12:Int)<(s.2.2.length:Int))=true:=by simp;omega
        go_wp2_with fail
        go_ret
        exact RetE.of (HE2.out.trans ((if_neg HLT.out).trans ((if_neg (by rw [HR.out];decide)).trans (if_pos h12)))) rfl HW.out.2.2.2
       ·have hi3:decide ((12:Int)<(s.2.2.length:Int))=false:=by simp;omega
        go_wp2_with fail
        go_ret
        exact RetE.of (HE2.out.trans ((if_neg HLT.out).trans ((if_neg (by rw [HR.out];decide)).trans (if_neg h12)))) rfl HW.out.2.2.2
  ·have HR81:Hid (itsE l i=81):=lh (HE.out.trans (if_pos (by rw [HN.out,decide_eq_false h24];rfl)))
   have hi1:decide ((24:Int)<(s.1.size:Int))=true:=by simp;omega
   clear hc HE HN h24
   go_enter Tryz.func115,Tryz.ntmps115
   go_wp2_with (go_at_call 93;refine (HCO.out _).mono ?_;rintro e w1 ⟨rfl,rfl⟩)
   all_goals go_ret
   all_goals exact RetE.of HR81.out rfl (HQ.go bB).out.2.2.2.2
end Go.Proofs.YtelkmeiepliecaaGreatDoor
