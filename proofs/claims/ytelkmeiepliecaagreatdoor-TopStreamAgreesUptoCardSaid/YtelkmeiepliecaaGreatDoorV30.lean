/-
  Part 30 of the proof.
-/
import Derived.Test.YtelkmeiepliecaaGreatDoorV29
set_option linter.unusedSimpArgs false
set_option linter.unusedVariables false
set_option maxHeartbeats 16000000
namespace Go.Proofs.YtelkmeiepliecaaGreatDoor
open Go.RowKit
theorem BN.ch1 {w w' w'':World} {g:Nat} {cs:List Value} {K:Nat→Prop} (h:BN w [(g,cs)] w') (hc:Ch K w' w'') (hk:¬ K g) (hb:Below w.heap.size w w''):BN w [(g,cs)] w'':=⟨fun p hp=>by
 rw [List.mem_singleton.1 hp]
 exact ⟨(h.get 0 rfl).ch hk hc,(h.ns 0 rfl).same (hc.same g (h.get 0 rfl).2.2 (.inl hk))⟩,hb⟩
theorem CO.of {w:World} {g base:Nat} {A:Option Addr} {c:Nat} {xs:List En} {full:Bool} {T:TypeId} {K:Nat→Prop} (h:BNX w g [.slice A xs.length c,.bool full]) (k:SO elE w base T (.slice A xs.length c) (fun j=>j≤g∨K j) xs):CO elE T w g base A c xs full:=⟨h,k.mono fun _ hb=>.inl hb⟩
theorem bb1' {a j:Nat} {x:List Value} (h:a<j):(∀ p∈[(a,x)],p.1≠j)∧a≤j:=⟨fun p hp=>by
 rw [List.mem_singleton.1 hp]
 show a≠j
 omega,by omega⟩
def rstS (g:Rg) (s:List En×Bool) (e:En):List En×Bool:=if nrO e.1 e.2.1 g.1=true then putC s (nrL e.1 e.2.1 g.1) (nrR e.1 e.2.1 g.1) (e.2.2++g.2) else s
def rstC (g:Rg) (m:List En):List En×Bool:=m.foldl (rstS g) ([],false)
theorem rstC_snoc {g:Rg} {m:List En} {k:Nat} {e:En} (he:m[k]? = some e):rstC g (m.take (k+1))=rstS g (rstC g (m.take k)) e:=by
 unfold rstC
 rw [List.take_add_one,he]
 simp [List.foldl_append]
theorem rstC_len (g:Rg) (m:List En):(rstC g m).1.length≤32:=foldC_len (fun s e h=>by
 unfold rstS
 split
 ·exact putC_len h
 ·exact h) m _ (Nat.zero_le _)
def rstB (g:Rg) (e:En):Bool:=nrE e.1 e.2.1 g.1 != 0 || (nrO e.1 e.2.1 g.1&&rdE (nrL e.1 e.2.1 g.1) (e.2.2++g.2))
def rstE (g:Rg) (m:List En):Int:=if chkM m=0 then (if m.any (rstB g)=true then 72 else if (rstC g m).2=true then 72 else 0) else chkM m
theorem rst_yes {g:Rg} {m:List En} {e:En} (he:e∈m) (h:rstB g e=true) (hc:chkM m=0):rstE g m=72:=by
 unfold rstE
 rw [if_pos hc,if_pos (List.any_eq_true.2 ⟨e,he,h⟩)]
theorem rst_no {g:Rg} {m:List En} (h:∀ e∈m,rstB g e=false) (hc:chkM m=0):rstE g m=if (rstC g m).2=true then 72 else 0:=by
 unfold rstE
 rw [if_pos hc,if_neg]
 rw [Bool.not_eq_true,List.any_eq_false]
 intro e he
 rw [h e he]
 decide
set_option maxRecDepth 100000 in
theorem restrict_any (m:List En) (g:Rg) (K:Nat→Prop) (A0 B0 H0:Option Addr) (c0 d0 h0:Nat) (w:World) (hsv:SV elE w K A0 c0 m) (hg:RG w g B0 d0 H0 h0) (ok:okM m) (og:okRg g) (zg:szR 2400 g) (hm:ML w) :
 Calls Tryz.prog 17 #[.slice A0 m.length c0,.agg #[.slice B0 g.1.1.length d0,.bool g.1.2,.slice H0 g.2.length h0]] w (RetM9 w (rstE g m) (rstC g m).1):=by
 have HSV:=lh hsv
 have HOK:=lh ok.1
 have HM:=lh hm
 have HG:=lh hg
 have HOG:=lh og
 have HZG:=lh zg
 have hl:=ok.2
 have q1:=hsv.lenc
 have q2:=hsv.capc
 have HCK:=lh (chk1 m A0 c0 w K hsv ok hm (w.heap.size+1))
 have HRC:=lh (fun W (hb:Below w.heap.size w W)=>regCheck_any B0 H0 d0 h0 g.1 g.2 W (hg.1.below hb) (hg.2.below hb) (szP_of og.1 zg.1 (by omega)) (fun q hq=>szP_of (og.2.1 q hq) (zg.2 q hq) (by omega)))
 rw [regE_ok og] at HRC
 have HS:At (BN w [(w.heap.size,rgV g B0 d0 H0 h0)]) (w.alloc (.cells #[.slice B0 g.1.1.length d0,.bool g.1.2,.slice H0 g.2.length h0] 48)) :=
  ((BN.nil w).push (rgV g B0 d0 H0 h0) 48 rfl (rgV_ns _ _ _ _ _)).at_
 clear hsv ok hm hg og zg
 obtain ⟨b0,b1,b2⟩:=(HS.out.get 0 rfl).c3
 by_cases hz:chkM m=0
 ·have HIY:=lh (fun e he h=>rst_yes (g:=g) (m:=m) (e:=e) he h hz)
  have HIN:=lh (fun h=>rst_no (g:=g) (m:=m) h hz)
  rw [hz] at HCK
  clear hz
  go_enter Tryz.func17,Tryz.ntmps17
  go_wp2_with (first
   | (go_at_call 23;refine (HCK.out _ (HS.go bB).out.low (BX.new _ [_] _ (by simp))).mono ?_;rintro x w1 ⟨rfl,hb1⟩;replace HS:=HS.go2 bB hb1;clear hb1 b0 b1 b2;obtain ⟨b0,b1,b2⟩:=(HS.out.get 0 rfl).c3)
   | (go_at_call 43;refine (HRC.out _ (HS.go bB).out.low).mono ?_;rintro x w2 ⟨rfl,hb2⟩;replace HS:=HS.go2 bB hb2;clear hb2 b0 b1 b2))
  have hw2:w.heap.size<w2.heap.size:=(HS.out.get 0 rfl).2.2
  go_loopw [25] (fun s wr=>∃ (k:Nat) (Ac:Option Addr) (cc:Nat),k≤m.length∧s=.int .i64 k∧Hid (CO elE 73 wr w2.heap.size (w2.heap.size+1) Ac cc (rstC g (m.take k)).1 (rstC g (m.take k)).2∧BN w [(w.heap.size,rgV g B0 d0 H0 h0)] wr)∧Hid (∀ j e,j<k→m[j]? = some e→rstB g e=false)) (fun s _=>m.length-(intOf s).toNat)
  case atStart=>exact ⟨0,none,0,Nat.zero_le _,rfl,lh ⟨CO.new elE 73 _ w2,(HS.go (ba _ _)).out⟩,lh (fun j e hj=>by omega)⟩
  case round =>
   clear HS
   obtain ⟨k,Ac,cc,hk,rfl,HQ0,HRF⟩:=hrel
   have hwr:=HQ0.out.1.1.1.2.2
   by_cases hlt:k<m.length
   ·obtain ⟨e,he⟩:∃ e,m[k]? = some e:=⟨_,gE hlt⟩
    obtain ⟨b,o,A,c,B,d,H,n,rfl,x0,x1,x2,x3,x4,heg,-⟩:=(HSV.out.below HQ0.out.2.low).en he
    have hem:=mG he
    have HOE:=lh (HOK.out e hem)
    have HE:=lh he
    have HEG:=lh heg
    have HSN:=lh (rstC_snoc (g:=g) he)
    have hxl:=rstC_len g (m.take k)
    have HLI:=lh (fun W=>line_any A B H e.1.1.length c e.2.1.1.length d e.2.2.length n e.1.2 e.2.1.2 W)
    have HNL:=lh (fun W (h:Below wr.heap.size wr W)=>narL_P (l:=e.1) (r:=e.2.1) (h:=g.1) (ex:=false) (A:=A) (c:=c) (B:=B) (d:=d) (C:=B0) (n:=d0) W (heg.1.below h) (heg.2.1.below h) (HG.out.1.below (go3 HQ0.out.2.low h)) (HM.out.below (go3 HQ0.out.2.low h)) (fun x hx=>Nat.le_trans (HOE.out.2.1 x hx) (by omega)) (fun x hx=>Nat.le_trans (HOE.out.2.2.1 x hx) (by omega)) (fun x hx=>Nat.le_trans (HZG.out.1 x hx) (by omega)) HOE.out.1.2.1 HOG.out.1)
    have HQ:At (fun W=>(BN w [(w.heap.size,rgV g B0 d0 H0 h0)] W∧BX W wr.heap.size (enV e A c B d H n)∧BNX W w2.heap.size [.slice Ac (rstC g (m.take k)).1.length cc,.bool (rstC g (m.take k)).2]∧SO elE W (w2.heap.size+1) 73 (.slice Ac (rstC g (m.take k)).1.length cc) (fun j=>j≤w2.heap.size∨wr.heap.size≤j) (rstC g (m.take k)).1∧Below wr.heap.size wr W)) (wr.alloc (.cells #[.slice A e.1.1.length c,.bool e.1.2,.slice B e.2.1.1.length d,.bool e.2.1.2,.slice H e.2.2.length n] 73)) :=
     ⟨fun X Y h hb=>⟨BN.kept _ _ _ _ h.1 hb,h.2.1.below hb,h.2.2.1.below hb,h.2.2.2.1.below hb,go3 h.2.2.2.2 hb⟩,(HQ0.out.2.at_.go (ba _ _)).out,BX.new wr _ _ rfl,HQ0.out.1.1.below (ba _ _),HQ0.out.1.2.fresh.below (ba _ _),ba _ _⟩
    have HOL:Hid (∀ j,(Value.slice Ac (rstC g (m.take k)).1.length cc).ownBlock=some j→w2.heap.size+1≤j∧j<wr.heap.size):=lh (fun j hj=>HQ0.out.1.2.own j hj)
    clear he heg hem HQ0
    go_upto_region 10 with (fail)
    clear x0 x1 x2 x3 x4
    go_cut [10,11,12] (fun s7 s8 s9 wx=>∃ (g7 c7 d7:Nat) (A7 B7:Option Addr),wr.heap.size<g7∧s7=.pointer (some ⟨g7,0,none⟩)∧s8=.bool (nrO e.1 e.2.1 g.1)∧s9=.int .i64 (nrE e.1 e.2.1 g.1)∧Hid (BX wx g7 [.bool false,.slice A7 (nrL e.1 e.2.1 g.1).1.length c7,.bool (nrL e.1 e.2.1 g.1).2,.slice B7 (nrR e.1 e.2.1 g.1).1.length d7,.bool (nrR e.1 e.2.1 g.1).2])∧Hid (RT wx A7 c7 (nrL e.1 e.2.1 g.1).1∧RT wx B7 d7 (nrR e.1 e.2.1 g.1).1)∧Hid (BN w [(w.heap.size,rgV g B0 d0 H0 h0)] wx∧BX wx wr.heap.size (enV e A c B d H n)∧CO elE 73 wx w2.heap.size (w2.heap.size+1) Ac cc (rstC g (m.take k)).1 (rstC g (m.take k)).2∧Below wr.heap.size wr wx))
    case first =>
     have HKS:Hid (∀ W,(BN w [(w.heap.size,rgV g B0 d0 H0 h0)] W∧BX W wr.heap.size (enV e A c B d H n)∧BNX W w2.heap.size [.slice Ac (rstC g (m.take k)).1.length cc,.bool (rstC g (m.take k)).2]∧SO elE W (w2.heap.size+1) 73 (.slice Ac (rstC g (m.take k)).1.length cc) (fun j=>j≤w2.heap.size∨wr.heap.size≤j) (rstC g (m.take k)).1∧Below wr.heap.size wr W)→W.cell? ⟨wr.heap.size,0,none⟩=some (.slice A e.1.1.length c)∧W.cell? ⟨wr.heap.size,1,none⟩=some (.bool e.1.2)∧W.cell? ⟨wr.heap.size,2,none⟩=some (.slice B e.2.1.1.length d)∧W.cell? ⟨wr.heap.size,3,none⟩=some (.bool e.2.1.2)∧W.cell? ⟨wr.heap.size,4,none⟩=some (.slice H e.2.2.length n)∧W.cell? ⟨w.heap.size,0,none⟩=some (.slice B0 g.1.1.length d0)∧W.cell? ⟨w.heap.size,1,none⟩=some (.bool g.1.2)):=lh (fun W h=>⟨h.2.1.c5.1,h.2.1.c5.2.1,h.2.1.c5.2.2.1,h.2.1.c5.2.2.2.1,h.2.1.c5.2.2.2.2,(h.1.get 0 rfl).1 0 _ rfl,(h.1.get 0 rfl).1 1 _ rfl⟩)
     have HK5:Hid (∀ W q a1 a2 a3 a4 a5,(BN w [(w.heap.size,rgV g B0 d0 H0 h0)] W∧BX W wr.heap.size (enV e A c B d H n)∧BNX W w2.heap.size [.slice Ac (rstC g (m.take k)).1.length cc,.bool (rstC g (m.take k)).2]∧SO elE W (w2.heap.size+1) 73 (.slice Ac (rstC g (m.take k)).1.length cc) (fun j=>j≤w2.heap.size∨wr.heap.size≤j) (rstC g (m.take k)).1∧Below wr.heap.size wr W)→q≠wr.heap.size→q≠w.heap.size→(((((W.setCell ⟨q,0,none⟩ a1).setCell ⟨q,1,none⟩ a2).setCell ⟨q,2,none⟩ a3).setCell ⟨q,3,none⟩ a4).setCell ⟨q,4,none⟩ a5).cell? ⟨wr.heap.size,0,none⟩=some (.slice A e.1.1.length c)∧(((((W.setCell ⟨q,0,none⟩ a1).setCell ⟨q,1,none⟩ a2).setCell ⟨q,2,none⟩ a3).setCell ⟨q,3,none⟩ a4).setCell ⟨q,4,none⟩ a5).cell? ⟨wr.heap.size,1,none⟩=some (.bool e.1.2)∧(((((W.setCell ⟨q,0,none⟩ a1).setCell ⟨q,1,none⟩ a2).setCell ⟨q,2,none⟩ a3).setCell ⟨q,3,none⟩ a4).setCell ⟨q,4,none⟩ a5).cell? ⟨wr.heap.size,2,none⟩=some (.slice B e.2.1.1.length d)∧(((((W.setCell ⟨q,0,none⟩ a1).setCell ⟨q,1,none⟩ a2).setCell ⟨q,2,none⟩ a3).setCell ⟨q,3,none⟩ a4).setCell ⟨q,4,none⟩ a5).cell? ⟨wr.heap.size,3,none⟩=some (.bool e.2.1.2)∧(((((W.setCell ⟨q,0,none⟩ a1).setCell ⟨q,1,none⟩ a2).setCell ⟨q,2,none⟩ a3).setCell ⟨q,3,none⟩ a4).setCell ⟨q,4,none⟩ a5).cell? ⟨wr.heap.size,4,none⟩=some (.slice H e.2.2.length n)∧(((((W.setCell ⟨q,0,none⟩ a1).setCell ⟨q,1,none⟩ a2).setCell ⟨q,2,none⟩ a3).setCell ⟨q,3,none⟩ a4).setCell ⟨q,4,none⟩ a5).cell? ⟨w.heap.size,0,none⟩=some (.slice B0 g.1.1.length d0)∧(((((W.setCell ⟨q,0,none⟩ a1).setCell ⟨q,1,none⟩ a2).setCell ⟨q,2,none⟩ a3).setCell ⟨q,3,none⟩ a4).setCell ⟨q,4,none⟩ a5).cell? ⟨w.heap.size,1,none⟩=some (.bool g.1.2)):=lh (fun W q a1 a2 a3 a4 a5 h n1 n2=>by
      obtain ⟨e1,e2,e3,e4,e5,e6,e7⟩:=HKS.out W h
      rw [set5_other _ _ _ _ _ (Ne.symm n1),set5_other _ _ _ _ _ (Ne.symm n1),set5_other _ _ _ _ _ (Ne.symm n1),set5_other _ _ _ _ _ (Ne.symm n1),set5_other _ _ _ _ _ (Ne.symm n1),set5_other _ _ _ _ _ (Ne.symm n2),set5_other _ _ _ _ _ (Ne.symm n2)]
      exact ⟨e1,e2,e3,e4,e5,e6,e7⟩)
     generalize nrL e.1 e.2.1 g.1=NL at *
     generalize nrR e.1 e.2.1 g.1=NR at *
     generalize nrO e.1 e.2.1 g.1=NO at *
     generalize nrE e.1 e.2.1 g.1=NE at *
     have hwwr:w.heap.size<wr.heap.size:=by omega
     go_region_held3 (fun W=>W.cell? ⟨wr.heap.size,0,none⟩=some (.slice A e.1.1.length c)∧W.cell? ⟨wr.heap.size,1,none⟩=some (.bool e.1.2)∧W.cell? ⟨wr.heap.size,2,none⟩=some (.slice B e.2.1.1.length d)∧W.cell? ⟨wr.heap.size,3,none⟩=some (.bool e.2.1.2)∧W.cell? ⟨wr.heap.size,4,none⟩=some (.slice H e.2.2.length n)∧W.cell? ⟨w.heap.size,0,none⟩=some (.slice B0 g.1.1.length d0)∧W.cell? ⟨w.heap.size,1,none⟩=some (.bool g.1.2))
      (first|(with_reducible refine HK5.out _ _ _ _ _ _ _ HQ.out ?_ ?_<;>omega)|(with_reducible refine HKS.out _ (HQ.go ?_).out<;>(repeat (first|with_reducible exact Below.refl _ _|with_reducible apply Below.drew|with_reducible apply below_drewN|with_reducible apply below_al))<;>done)|go_keep)
      (first
       | (go_at_call 29;refine (HLI.out _).mono ?_;rintro x w5 ⟨rfl,hb5⟩;replace HQ:=HQ.go2 bB hb5;have hs5:wr.heap.size<w5.heap.size:=HQ.out.2.1.2.2;have hs55:=hb5.size;simp at hs55;(first|(have hz5:=(BNX.new _ [.bool false,.slice none 0 0,.bool false,.slice none 0 0,.bool false] 57 (g:=wr.heap.size+1) (by simp) (ns5 ns_bool ns_slice ns_bool ns_slice ns_bool)).drew.below hb5)|skip);clear hb5)
       | (go_at_call 44;refine (HNL.out _ (HQ.go bB).out.2.2.2.2).mono ?_;rintro x w6 ⟨A7,c7,B7,d7,rfl,hlr6,hb6⟩;replace HQ:=HQ.go2 bB hb6;have HR6:=lh hlr6;have hs6:wr.heap.size<w6.heap.size:=HQ.out.2.1.2.2;(first|(have hz6:=hz5.below hb6;clear hz5)|(have hz6:=(BNX.new w5 [.bool false,.slice none 0 0,.bool false,.slice none 0 0,.bool false] 57 (g:=w5.heap.size) (by simp) (ns5 ns_bool ns_slice ns_bool ns_slice ns_bool)).below hb6)|skip);(try (obtain ⟨z0,z1,z2,z3,z4⟩:=hz6.1.c5;have zf0:=hz6.1.2.1 0;have zf1:=hz6.1.2.1 1;have zf2:=hz6.1.2.1 2;have zf3:=hz6.1.2.1 3;have zf4:=hz6.1.2.1 4;have zl:=hz6.1.2.2));clear hlr6 hb6))
     all_goals
      go_wp2_with fail
      go_meet
      first
      | exact ⟨_,c7,d7,A7,B7,by omega,rfl,rfl,rfl,lh (hz6.1.set5 _ _ _ _ _),lh ⟨HR6.out.1.ch (ch_set5 (K:=fun _=>True) trivial hz6.2 ns_bool ns_slice ns_bool ns_slice _),HR6.out.2.ch (ch_set5 (K:=fun _=>True) trivial hz6.2 ns_bool ns_slice ns_bool ns_slice _)⟩,lh ⟨HQ.out.1.grown (gb_set5 _ _ _ _ _) (fun j e=>by cases e;exact bb1' (by omega)),HQ.out.2.1.grown (gb_set5 _ _ _ _ _) (fun e=>by have:=Option.some.inj e;omega),CO.of (HQ.out.2.2.1.grown (gb_set5 _ _ _ _ _) (fun e=>by have:=Option.some.inj e;omega)) (HQ.out.2.2.2.1.ch (ch_set5 (K:=fun j=>j≤w2.heap.size∨wr.heap.size≤j) (.inr (by omega)) hz6.2 ns_bool ns_slice ns_bool ns_slice _) (fun j hj e=>by have:=HOL.out j hj;omega)),HQ.out.2.2.2.2.grown (gb_set5 _ _ _ _ _) HQ.out.2.2.2.2.size (fun j e=>by cases e;omega)⟩⟩
      | exact ⟨_,c7,d7,A7,B7,by omega,rfl,rfl,rfl,lh (BX.new w6 [_,_,_,_,_] _ rfl),lh ⟨HR6.out.1.below (ba _ _),HR6.out.2.below (ba _ _)⟩,lh ⟨(HQ.go (ba _ _)).out.1,(HQ.go (ba _ _)).out.2.1,CO.of (HQ.go (ba _ _)).out.2.2.1 (HQ.go (ba _ _)).out.2.2.2.1,(HQ.go (ba _ _)).out.2.2.2.2⟩⟩
    case rest =>
     obtain ⟨g7,c7,d7,A7,B7,hg7,rfl,rfl,rfl,HX,HLR,HST⟩:=hcut
     obtain ⟨y0,y1,y2,y3,y4⟩:=HX.out.c5
     obtain ⟨x0,x1,x2,x3,x4⟩:=HST.out.2.1.c5
     obtain ⟨b0,b1,b2⟩:=(HST.out.1.get 0 rfl).c3
     have HRF2:Hid (rstB g e=false→∀ j q,j<k+1→m[j]? = some q→rstB g q=false):=lh (fun hb j q hj hq=>by
      rcases Nat.lt_or_ge j k with h1|h1
      ·exact HRF.out j q h1 hq
      ·obtain rfl:j=k:=by omega
       rw [HE.out] at hq
       cases hq
       exact hb)
     have HIY2:=lh (HIY.out e (mG HE.out))
     clear HRF HIY HQ
     by_cases hne:nrE e.1 e.2.1 g.1=0
     ·rw [hne]
      cases hno:nrO e.1 e.2.1 g.1 with
      | false =>
       have HB0:Hid (rstB g e=false∧rstC g (m.take (k+1))=rstC g (m.take k)):=lh (by rw [HSN.out];unfold rstB rstS;rw [hne,hno];exact ⟨rfl,rfl⟩)
       clear hne hno
       go_wp2_with fail
       go_roundw
       case rel=>exact ⟨k+1,Ac,cc,by omega,by go_num,lh ⟨by rw [HB0.out.2];exact HST.out.2.2.1,HST.out.1⟩,lh (HRF2.out HB0.out.1)⟩
       case measure=>simp [intOf];omega
      | true =>
       have HB0:Hid (rstB g e=rdE (nrL e.1 e.2.1 g.1) (e.2.2++g.2)∧rstC g (m.take (k+1))=putC (rstC g (m.take k)) (nrL e.1 e.2.1 g.1) (nrR e.1 e.2.1 g.1) (e.2.2++g.2)):=lh (by rw [HSN.out];unfold rstB rstS;rw [hne,hno];exact ⟨rfl,rfl⟩)
       obtain ⟨-,oL,oR⟩:=nrR_ok hno
       have hzz:=nar_sz (r:=e.1.2) (t:=e.2.1.2) (u:=g.1.2) HOE.out.2.1 HOE.out.2.2.1 HZG.out.1
       have hlh:e.2.2.length+g.2.length≤128:=by have h1:e.2.2.length≤64:=HOE.out.1.2.2.2;have h2:g.2.length≤64:=HOG.out.2.2;omega
       have HPZ:Hid (szP (nrL e.1 e.2.1 g.1)∧(nrR e.1 e.2.1 g.1).1.length≤100000∧(∀ q∈e.2.2++g.2,szP q)∧(e.2.2++g.2).length≤5000):=lh ⟨szP_of oL hzz.1 (by omega),by have:=(okPn_len oR).2;omega,fun q hq=>by
        rcases List.mem_append.1 hq with hq|hq
        ·exact szP_of (HOE.out.1.2.2.1 q hq) (HOE.out.2.2.2 q hq) (by omega)
        ·exact szP_of (HOG.out.2.1 q hq) (HZG.out.2 q hq) (by omega),by rw [List.length_append];omega⟩
       have HPT:=lh (fun (A5:Option Addr) (c5:Nat) W (h1:CO elE 73 W w2.heap.size (w2.heap.size+1) Ac cc (rstC g (m.take k)).1 (rstC g (m.take k)).2) (h2:w2.heap.size+1≤W.heap.size) k1 k2 k3=>put_any (rstC g (m.take k)).1 (rstC g (m.take k)).2 false (nrL e.1 e.2.1 g.1) (nrR e.1 e.2.1 g.1) (e.2.2++g.2) A7 B7 A5 c7 d7 c5 w2.heap.size (w2.heap.size+1) Ac cc W h1 (Nat.lt_succ_self _) h2 hxl k1 k2 k3 HPZ.out.1 HPZ.out.2.1 HPZ.out.2.2.1 HPZ.out.2.2.2)
       have hwc:w2.heap.size<wc.heap.size:=HST.out.2.2.1.1.1.2.2
       have HWC:Hid (Below wr.heap.size wr wc):=lh HST.out.2.2.2
       have HCC:=lh (fun q W (hbx:BX W q [.slice H e.2.2.length n,.slice H0 g.2.length h0]) (hlow:Below wc.heap.size wc W)=>concat2_any q 2 H H0 n h0 e.2.2 g.2 W hbx ((HEG.out.2.2.below HWC.out).below hlow) ((HG.out.2.below HST.out.1.low).below hlow) (by omega) (by omega) (by omega))
       obtain ⟨L,HLL⟩:∃ L,Hid (e.2.2++g.2=L):=⟨_,lh rfl⟩
       rw [HLL.out] at HB0 HPT HCC
       clear HLL HPZ
       have HQ:At (fun W=>BX W g7 [.bool false,.slice A7 (nrL e.1 e.2.1 g.1).1.length c7,.bool (nrL e.1 e.2.1 g.1).2,.slice B7 (nrR e.1 e.2.1 g.1).1.length d7,.bool (nrR e.1 e.2.1 g.1).2]∧(RT W A7 c7 (nrL e.1 e.2.1 g.1).1∧RT W B7 d7 (nrR e.1 e.2.1 g.1).1)∧BN w [(w.heap.size,rgV g B0 d0 H0 h0)] W∧BX W wr.heap.size (enV e A c B d H n)∧CO elE 73 W w2.heap.size (w2.heap.size+1) Ac cc (rstC g (m.take k)).1 (rstC g (m.take k)).2∧Below wc.heap.size wc W) wc :=
        ⟨fun X Y h hb=>⟨h.1.below hb,⟨h.2.1.1.below hb,h.2.1.2.below hb⟩,BN.kept _ _ _ _ h.2.2.1 hb,h.2.2.2.1.below hb,h.2.2.2.2.1.below hb,go3 h.2.2.2.2.2 hb⟩,HX.out,HLR.out,HST.out.1,HST.out.2.1,HST.out.2.2.1,Below.refl _ _⟩
       have HKS:Hid (∀ W,BX W g7 [.bool false,.slice A7 (nrL e.1 e.2.1 g.1).1.length c7,.bool (nrL e.1 e.2.1 g.1).2,.slice B7 (nrR e.1 e.2.1 g.1).1.length d7,.bool (nrR e.1 e.2.1 g.1).2]→BX W wr.heap.size (enV e A c B d H n)→BX W w.heap.size (rgV g B0 d0 H0 h0)→W.cell? ⟨g7,0,none⟩=some (.bool false)∧W.cell? ⟨g7,1,none⟩=some (.slice A7 (nrL e.1 e.2.1 g.1).1.length c7)∧W.cell? ⟨g7,2,none⟩=some (.bool (nrL e.1 e.2.1 g.1).2)∧W.cell? ⟨g7,3,none⟩=some (.slice B7 (nrR e.1 e.2.1 g.1).1.length d7)∧W.cell? ⟨g7,4,none⟩=some (.bool (nrR e.1 e.2.1 g.1).2)∧W.cell? ⟨wr.heap.size,4,none⟩=some (.slice H e.2.2.length n)∧W.cell? ⟨w.heap.size,2,none⟩=some (.slice H0 g.2.length h0)):=lh (fun W h1 h2 h3=>⟨h1.c5.1,h1.c5.2.1,h1.c5.2.2.1,h1.c5.2.2.2.1,h1.c5.2.2.2.2,h2.c5.2.2.2.2,h3.c3.2.2⟩)
       have HNK:Hid (∀ j,(j=w.heap.size∨wr.heap.size≤j)→¬ (j=w2.heap.size∨(Value.slice Ac (rstC g (m.take k)).1.length cc).ownBlock=some j)):=lh (fun j hj e=>by
        rcases e with e|e
        ·omega
        ·have:=HOL.out j e;omega)
       go_upto_region 14 with (fail)
       clear x0 x1 x2 x3 x4 y0 y1 y2 y3 y4 b0 b1 b2
       cases hrd:rdE (nrL e.1 e.2.1 g.1) L with
       | true =>
        have HPE:=lh (putE_ne hrd)
        have HY:=lh (HIY2.out (HB0.out.1.trans hrd))
        clear hrd
        go_region_held3 (fun W=>W.cell? ⟨g7,0,none⟩=some (.bool false)∧W.cell? ⟨g7,1,none⟩=some (.slice A7 (nrL e.1 e.2.1 g.1).1.length c7)∧W.cell? ⟨g7,2,none⟩=some (.bool (nrL e.1 e.2.1 g.1).2)∧W.cell? ⟨g7,3,none⟩=some (.slice B7 (nrR e.1 e.2.1 g.1).1.length d7)∧W.cell? ⟨g7,4,none⟩=some (.bool (nrR e.1 e.2.1 g.1).2)∧W.cell? ⟨wr.heap.size,4,none⟩=some (.slice H e.2.2.length n)∧W.cell? ⟨w.heap.size,2,none⟩=some (.slice H0 g.2.length h0))
         (first|exact HKS.out _ HX1.out HX2.out (HX8.out.get 0 rfl)|(with_reducible refine HKS.out _ (HQ.go ?_).out.1 (HQ.go ?_).out.2.2.2.1 ((HQ.go ?_).out.2.2.1.get 0 rfl)<;>(repeat (first|with_reducible exact Below.refl _ _|with_reducible apply Below.drew|with_reducible apply below_drewN|with_reducible apply below_al))<;>done)|go_keep)
         (first
          | (go_at_call 40;refine (HCC.out _ _ (BX.new _ [_,_] _ (by simp)).drew (HQ.go bB).out.2.2.2.2.2).mono ?_;rintro x w5 ⟨v5,rfl,hso,hb5⟩;replace HQ:=HQ.go2 bB hb5;obtain ⟨A5,c5,rfl,hsv,-,-⟩:=hso.read (fun _ _ h=>h);have HSV5:=lh hsv;clear hso hsv hb5)
          | (go_at_call 25;refine (HPT.out A5 c5 _ (HQ.go bB).out.2.2.2.2.1 (Nat.le_trans (Nat.succ_le_of_lt hwc) (HQ.go bB).out.2.2.2.2.2.size) (HQ.go bB).out.2.1.1 (HQ.go bB).out.2.1.2 ((HSV5.out.below bB).bt)).mono ?_;rintro x w8 ⟨rfl,A8,c8,hco8,hlo8,hch8⟩;have HX9:=lh ((HQ.go bB).out.2.2.1.low.trans (hlo8.mono (Nat.le_of_lt hw2)));have HX1:=lh ((HQ.go bB).out.1.ch (HNK.out _ (.inr (Nat.le_of_lt hg7))) hch8);have HX2:=lh ((HQ.go bB).out.2.2.2.1.ch (HNK.out _ (.inr (Nat.le_refl _))) hch8);have HX8:=lh (BN.ch1 (HQ.go bB).out.2.2.1 hch8 (HNK.out _ (.inl rfl)) HX9.out);have HC8:=lh hco8;clear hco8 hlo8 hch8;rw [HPE.out]))
        all_goals
         go_wp2_with fail
         go_ret2
         exact ⟨fun h=>absurd (HY.out.symm.trans h) (by decide),fun _=>⟨by rw [HY.out];rfl,HX9.out⟩⟩
       | false =>
        have HPE:=lh (putE_eq hrd)
        have HN2:=lh (HRF2.out (HB0.out.1.trans hrd))
        clear hrd
        go_region_held3 (fun W=>W.cell? ⟨g7,0,none⟩=some (.bool false)∧W.cell? ⟨g7,1,none⟩=some (.slice A7 (nrL e.1 e.2.1 g.1).1.length c7)∧W.cell? ⟨g7,2,none⟩=some (.bool (nrL e.1 e.2.1 g.1).2)∧W.cell? ⟨g7,3,none⟩=some (.slice B7 (nrR e.1 e.2.1 g.1).1.length d7)∧W.cell? ⟨g7,4,none⟩=some (.bool (nrR e.1 e.2.1 g.1).2)∧W.cell? ⟨wr.heap.size,4,none⟩=some (.slice H e.2.2.length n)∧W.cell? ⟨w.heap.size,2,none⟩=some (.slice H0 g.2.length h0))
         (first|exact HKS.out _ HX1.out HX2.out (HX8.out.get 0 rfl)|(with_reducible refine HKS.out _ (HQ.go ?_).out.1 (HQ.go ?_).out.2.2.2.1 ((HQ.go ?_).out.2.2.1.get 0 rfl)<;>(repeat (first|with_reducible exact Below.refl _ _|with_reducible apply Below.drew|with_reducible apply below_drewN|with_reducible apply below_al))<;>done)|go_keep)
         (first
          | (go_at_call 40;refine (HCC.out _ _ (BX.new _ [_,_] _ (by simp)).drew (HQ.go bB).out.2.2.2.2.2).mono ?_;rintro x w5 ⟨v5,rfl,hso,hb5⟩;replace HQ:=HQ.go2 bB hb5;obtain ⟨A5,c5,rfl,hsv,-,-⟩:=hso.read (fun _ _ h=>h);have HSV5:=lh hsv;clear hso hsv hb5)
          | (go_at_call 25;refine (HPT.out A5 c5 _ (HQ.go bB).out.2.2.2.2.1 (Nat.le_trans (Nat.succ_le_of_lt hwc) (HQ.go bB).out.2.2.2.2.2.size) (HQ.go bB).out.2.1.1 (HQ.go bB).out.2.1.2 ((HSV5.out.below bB).bt)).mono ?_;rintro x w8 ⟨rfl,A8,c8,hco8,hlo8,hch8⟩;have HX9:=lh ((HQ.go bB).out.2.2.1.low.trans (hlo8.mono (Nat.le_of_lt hw2)));have HX1:=lh ((HQ.go bB).out.1.ch (HNK.out _ (.inr (Nat.le_of_lt hg7))) hch8);have HX2:=lh ((HQ.go bB).out.2.2.2.1.ch (HNK.out _ (.inr (Nat.le_refl _))) hch8);have HX8:=lh (BN.ch1 (HQ.go bB).out.2.2.1 hch8 (HNK.out _ (.inl rfl)) HX9.out);have HC8:=lh hco8;clear hco8 hlo8 hch8;rw [HPE.out]))
        all_goals
         go_wp2_with fail
         go_roundw
         case rel=>exact ⟨k+1,A8,c8,by omega,by go_num,lh ⟨by rw [HB0.out.2];exact HC8.out,HX8.out⟩,HN2⟩
         case measure=>simp [intOf];omega
     ·have hneb:(nrE e.1 e.2.1 g.1 != 0)=true:=by simpa using hne
      have HY:=lh (HIY2.out (by unfold rstB;rw [hneb];rfl))
      go_wp2_with fail
      go_ret2
      exact ⟨fun h=>absurd (HY.out.symm.trans h) (by decide),fun _=>⟨by rw [HY.out];rfl,HST.out.1.low⟩⟩
   ·obtain rfl:k=m.length:=by omega
    rw [List.take_length] at HQ0
    have HI:=lh (HIN.out (fun e he=>by
     obtain ⟨j,hj⟩:=List.mem_iff_getElem?.1 he
     exact HRF.out j e (sI.1 hj).1 hj))
    have HRS:=lh (resE_any (rstC g m).1 (rstC g m).2 w2.heap.size (w2.heap.size+1) Ac cc wr HQ0.out.1)
    have HLB:=lh HQ0.out.2.low
    have HSO:=lh HQ0.out.1.2
    clear HRF HQ0
    cases hf:(rstC g m).2 with
    | true =>
     rw [hf] at HRS HI
     clear hf
     go_wp2_with (go_at_call 26;refine HRS.out.mono ?_;rintro x w5 ⟨rfl,hb5⟩;have HB5:=lh hb5;clear hb5;rw [if_pos rfl,if_pos rfl])
     go_ret2
     exact ⟨fun h=>absurd (HI.out.symm.trans h) (by decide),fun _=>⟨by rw [HI.out];rfl,go3 HLB.out HB5.out⟩⟩
    | false =>
     rw [hf] at HRS HI
     clear hf
     go_wp2_with (go_at_call 26;refine HRS.out.mono ?_;rintro x w5 ⟨rfl,hb5⟩;have HB5:=lh hb5;clear hb5;rw [if_neg (by decide),if_neg (by decide)])
     go_ret2
     obtain ⟨A9,c9,e9,h1,h2,h3⟩:=HSO.out.read (fun b hb h=>by omega)
     cases e9
     exact ⟨fun _=>⟨Ac,cc,rfl,(h1.mono (fun b (hb:b<w.heap.size)=>by omega)).below HB5.out,h2,go3 HLB.out HB5.out⟩,fun h=>absurd HI.out h⟩
 ·have hneb:(chkM m != 0)=true:=by simpa using hz
  have HE:Hid (rstE g m=chkM m):=lh (if_neg hz)
  have HZ:=lh hz
  clear hz
  go_enter Tryz.func17,Tryz.ntmps17
  go_wp2_with (go_at_call 23;refine (HCK.out _ (HS.go bB).out.low (BX.new _ [_] _ (by simp))).mono ?_;rintro x w1 ⟨rfl,hb1⟩;replace HS:=HS.go2 bB hb1;clear hb1)
  go_ret2
  exact ⟨fun h=>absurd (HE.out.symm.trans h) HZ.out,fun _=>⟨by rw [HE.out];rfl,HS.out.low⟩⟩
open Pm
abbrev Pc:=Rg×Int×Pn×Pn
def allP:Pn:=([viewN],true)
def pc0:Pc:=((allP,[]),1,([],false),([],false))
def stoP (p:Pn) (name:ByteArray):Pn:=(p.1.set 0 name,p.2)
def wideP (name:ByteArray) (p:Ln) (q:Pc) (g:Rg):Pn×Pn:=if q.2.1=3 then q.2.2 else if p.1=3 then p.2 else (g.1,stoP g.1 name)
def kindP (p:Ln) (q:Pc):Int:=if q.2.1=3 then 3 else if p.1=3 then 3 else ownK p.1 q.2.1
def nwE (name:ByteArray) (p:Ln) (q:Pc) (g:Rg):Int:=nrE (wideP name p q g).1 (wideP name p q g).2 g.1
def nwP (name:ByteArray) (p:Ln) (q:Pc) (g:Rg):Pc:=(g,kindP p q,nrL (wideP name p q g).1 (wideP name p q g).2 g.1,nrR (wideP name p q g).1 (wideP name p q g).2 g.1)
def stepQ (name:ByteArray) (p:Ln) (own:Rg) (s:Option (List Pc)) (q:Pc):Option (List Pc):=match s with
 | none=>none
 | some r=>if rmE own q.1=true then none else if rmO own q.1=false then some r else if nwE name p q (rmB own q.1)≠0∨r.length=32 then none else some (r++[nwP name p q (rmB own q.1)])
def laterL (ps:List Ln) (k:Nat):List Pn:=(ps.drop (k+1)).map fun p=>p.2.1
def ownR (ps:List Ln) (k:Nat) (p:Ln):Rg:=(p.2.1,redH p.2.1 (laterL ps k))
def lineQ (name:ByteArray) (ps:List Ln) (ab:List Pc) (s:Option (List Pc)) (k:Nat) (p:Ln):Option (List Pc):=if p.1=4 then s else ab.foldl (stepQ name p (ownR ps k p)) s
def rowQ (name:ByteArray) (ps:List Ln) (ab:List Pc):Nat→Option (List Pc)
 | 0=>some []
 | k+1=>match ps[k]? with
  | none=>rowQ name ps ab k
  | some p=>lineQ name ps ab (rowQ name ps ab k) k p
def pcsF (l:List St):Nat→Nat→Option (List Pc)
 | 0,_=>none
 | n+1,i=>match l[i]? with
  | none=>none
  | some s=>match (match parS l i with|some p=>pcsF l n p|none=>some [pc0]) with
   | none=>none
   | some ab=>rowQ s.1 s.2.2 ab s.2.2.length
def entE (q:Pc):Bool:=nrsE q.2.2.1 q.2.2.2 q.1.2
def entF (q:Pc):En:=(q.2.2.2,q.2.2.1,redH q.2.2.2 (nrsR q.2.2.1 q.2.2.2 q.1.2))
def vwF (l:List St) (n i:Nat):Option (List Pc):=match pcsF l n i with
 | none=>none
 | some ps=>if ps.any entE=true then none else some ps
def btwF (name:ByteArray) (ps:List Pc):List En:=(ps.filter fun q=>q.2.1==1).map fun q=>((entF q).1,stoP q.1.1 name,(entF q).2.2)
theorem stepQ_none (name:ByteArray) (p:Ln) (own:Rg):∀ ab:List Pc,ab.foldl (stepQ name p own) none=none
 | []=>rfl
 | q::ab=>by rw [List.foldl_cons];exact stepQ_none name p own ab
theorem lineQ_none (name:ByteArray) (ps:List Ln) (ab:List Pc) (k:Nat) (p:Ln):lineQ name ps ab none k p=none:=by
 unfold lineQ
 split
 ·rfl
 ·exact stepQ_none _ _ _ _
theorem rowQ_none {name:ByteArray} {ps:List Ln} {ab:List Pc} {k:Nat} (h:rowQ name ps ab k=none):∀ j,rowQ name ps ab (k+j)=none
 | 0=>h
 | j+1=>by
  rw [←Nat.add_assoc]
  unfold rowQ
  rw [rowQ_none h j]
  split
  ·rfl
  ·exact lineQ_none _ _ _ _ _
theorem rowQ_le {name:ByteArray} {ps:List Ln} {ab:List Pc} {k n:Nat} (h:rowQ name ps ab k=none) (hk:k≤n):rowQ name ps ab n=none:=by
 obtain ⟨j,rfl⟩:=Nat.le.dest hk
 exact rowQ_none h j
theorem rowQ_succ {name:ByteArray} {ps:List Ln} {ab:List Pc} {k:Nat} {p:Ln} (h:ps[k]? = some p):rowQ name ps ab (k+1)=lineQ name ps ab (rowQ name ps ab k) k p:=by
 show (match ps[k]? with|none=>rowQ name ps ab k|some p=>lineQ name ps ab (rowQ name ps ab k) k p)=_
 rw [h]
def inR (g:Rg) (c:ByteArray):Bool:=mt g.1 c&&!g.2.any (mt · c)
open Go.RowKit
theorem pairs_any (A B:Option Addr) (n c m d:Nat) (w:World) :
 Calls Tryz.prog 27 #[.slice A n c,.slice B m d] w fun x w'=>x=.returned (.func (.func 56) #[] #[.pointer (some ⟨w.heap.size,0,none⟩),.pointer (some ⟨w.heap.size+1,0,none⟩)]) ∧
  BX w' w.heap.size [.slice A n c]∧BX w' (w.heap.size+1) [.slice B m d]∧Below w.heap.size w w':=by
 go_enter Tryz.func27,Tryz.ntmps27
 go_wp2_with fail
 go_ret
 exact ⟨rfl,(BX.new w [_] _ rfl).below (ba _ _),BX.new _ [_] _ (by simp),bB⟩
end Go.Proofs.YtelkmeiepliecaaGreatDoor
