/-
  Part 27 of the proof.
-/
import Derived.Test.YtelkmeiepliecaaGreatDoorU26
import Derived.Test.YtelkmeiepliecaaGreatDoorU25
set_option linter.unusedSimpArgs false
set_option linter.unusedVariables false
set_option maxHeartbeats 16000000
namespace Go.Proofs.YtelkmeiepliecaaGreatDoor
open Go.RowKit
def nrE (l r h:Pn):Int:=narE l.1 l.2 r.1 r.2 h.1 h.2
def nrO (l r h:Pn):Bool:=narO l.1 l.2 r.1 r.2 h.1 h.2
def nrL (l r h:Pn):Pn:=(narL l.1 l.2 r.1 r.2 h.1 h.2,narLr l.1 l.2 r.1 r.2 h.1 h.2)
def nrR (l r h:Pn):Pn:=(narR l.1 l.2 r.1 r.2 h.1 h.2,narRr l.1 l.2 r.1 r.2 h.1 h.2)
def nrsR (l r:Pn) (hs:List Pn):List Pn:=(hs.filter (nrO l r)).map (nrR l r)
theorem nrsR_snoc {l r:Pn} {hs:List Pn} {k:Nat} {h:Pn} (hh:hs[k]? = some h):nrsR l r (hs.take (k+1))=nrsR l r (hs.take k)++(if nrO l r h=true then [nrR l r h] else []):=by
 unfold nrsR
 rw [List.take_add_one,hh,List.filter_append,List.map_append]
 refine congrArg _ ?_
 by_cases hm:nrO l r h=true
 ·simp [hm]
 ·simp [hm]
theorem nrsR_len (l r:Pn) (hs:List Pn):(nrsR l r hs).length≤hs.length:=by
 unfold nrsR
 rw [List.length_map]
 exact List.length_filter_le _ _
def nrsE (l r:Pn) (hs:List Pn):Bool:=hs.any fun h=>nrE l r h != 0
def RetRt (w:World) (e:En) (B:Option Addr) (d:Nat) (x:Ending) (w':World):Prop :=
 (nrsE e.1 e.2.1 e.2.2=false→∃ A c,x=.returned (.tuple #[.agg #[.slice B e.2.1.1.length d,.bool e.2.1.2,.slice A (nrsR e.1 e.2.1 e.2.2).length c],.int .i64 0])∧(BT w' A c (nrsR e.1 e.2.1 e.2.2)∧∀ a,A=some a→w.heap.size≤a.block)∧Below w.heap.size w w') ∧
 (nrsE e.1 e.2.1 e.2.2=true→x=.returned (.tuple #[.agg #[.slice none 0 0,.bool false,.slice none 0 0],.int .i64 72])∧Below w.heap.size w w')
theorem nrsE_yes {l r:Pn} {hs:List Pn} {k:Nat} {h:Pn} (hh:hs[k]? = some h) (he:nrE l r h≠0):nrsE l r hs=true:=List.any_eq_true.2 ⟨h,mG hh,by simpa using he⟩
theorem nrsE_no {l r:Pn} {hs:List Pn} (h:∀ j q,j<hs.length→hs[j]? = some q→nrE l r q=0):nrsE l r hs=false:=by
 unfold nrsE
 rw [List.any_eq_false]
 intro q hq
 obtain ⟨j,hj⟩:=List.mem_iff_getElem?.1 hq
 simp [h j q (sI.1 hj).1 hj]
theorem narL_P {l r h:Pn} {ex:Bool} {A:Option Addr} {c:Nat} {B:Option Addr} {d:Nat} {C:Option Addr} {n:Nat} (w:World) (k1:RT w A c l.1) (k2:RT w B d r.1) (k3:RT w C n h.1) (hm:ML w) (z1:szN 5000 l) (z2:szN 5000 r) (z3:szN 5000 h) (o1:okPn l) (o3:okPn h) :
 Calls Tryz.prog 44 #[.agg #[.bool ex,.slice A l.1.length c,.bool l.2,.slice B r.1.length d,.bool r.2],.agg #[.slice C h.1.length n,.bool h.2]] w fun e w' =>
  ∃ A2 c2 B2 d2,e=.returned (.tuple #[.agg #[.bool false,.slice A2 (nrL l r h).1.length c2,.bool (nrL l r h).2,.slice B2 (nrR l r h).1.length d2,.bool (nrR l r h).2],.bool (nrO l r h),.int .i64 (nrE l r h)])∧(RT w' A2 c2 (nrL l r h).1∧RT w' B2 d2 (nrR l r h).1)∧Below w.heap.size w w' :=
 (narrowL_any ex A c l.1 l.2 B d r.1 r.2 C n h.1 h.2 w k1 k2 k3 hm z1 z2 z3 (by have:=(okPn_len o1).2;omega) (by have:=(okPn_len o3).2;omega)).mono fun e w' h=>by
  obtain ⟨A2,c2,B2,d2,e1,h1,h2,h3⟩:=h
  exact ⟨A2,c2,B2,d2,e1,⟨h1,h2⟩,h3⟩
set_option maxRecDepth 100000 in
theorem right_any (e:En) (A B H:Option Addr) (c d h:Nat) (w:World) (k:EG w e A c B d H h) (ok:okEn e) (hz:szE 5000 e) (hm:ML w) :
 Calls Tryz.prog 24 #[.agg #[.slice A e.1.1.length c,.bool e.1.2,.slice B e.2.1.1.length d,.bool e.2.1.2,.slice H e.2.2.length h]] w (RetRt w e B d):=by
 have HK:=lh k
 have HM:=lh hm
 have HOK:=lh ok
 have HZ:=lh hz
 have q1:=k.2.2.1
 have q2:=k.2.2.2.1
 have hl64:e.2.2.length≤64:=ok.2.2.2
 have HLI:=lh (fun W=>line_any A B H e.1.1.length c e.2.1.1.length d e.2.2.length h e.1.2 e.2.1.2 W)
 have HS:At (fun w'=>BN w [(w.heap.size,enV e A c B d H h),(w.heap.size+1,[.slice none 0 0,.bool false,.slice none 0 0])] w'∧BNX w' (w.heap.size+1+1) [.slice B e.2.1.1.length d,.bool e.2.1.2,.slice none 0 0]) (((w.alloc (.cells #[.slice A e.1.1.length c,.bool e.1.2,.slice B e.2.1.1.length d,.bool e.2.1.2,.slice H e.2.2.length h] 73)).alloc (.cells #[.slice none 0 0,.bool false,.slice none 0 0] 48)).alloc (.cells #[.slice B e.2.1.1.length d,.bool e.2.1.2,.slice none 0 0] 48)) :=
  ⟨fun X Y h hb=>⟨BN.kept _ _ _ _ h.1 hb,h.2.below hb⟩,(((BN.nil w).push (enV e A c B d H h) 73 rfl (enV_ns _ _ _ _ _ _ _)).push [.slice none 0 0,.bool false,.slice none 0 0] 48 (g:=w.heap.size+1) (by simp) (ns3 ns_slice ns_bool ns_slice)).at_.go (ba _ _) |>.out,BNX.new _ [_,_,_] _ (by simp) (ns3 ns_slice ns_bool ns_slice)⟩
 clear k ok hz hm
 obtain ⟨a0,a1,a2,a3,a4⟩:=(HS.out.1.get 0 rfl).c5
 go_enter Tryz.func24,Tryz.ntmps24
 go_wp2_with fail
 clear a0 a1 a2 a3 a4
 go_loopw [16] (fun s wr=>∃ (k n7 c7:Nat) (A7:Option Addr),k≤e.2.2.length∧s=.int .i64 k∧w.heap.size+1+1+1≤wr.heap.size∧Hid (BN w [(w.heap.size,enV e A c B d H h),(w.heap.size+1,[.slice none 0 0,.bool false,.slice none 0 0])] wr∧BNX wr (w.heap.size+1+1) [.slice B e.2.1.1.length d,.bool e.2.1.2,.slice A7 n7 c7])∧Hid (n7=(nrsR e.1 e.2.1 (e.2.2.take k)).length)∧Hid (SO elP wr (w.heap.size+1+1+1) 45 (.slice A7 n7 c7) (fun j=>j=w.heap.size+1+1∨j=w.heap.size+1) (nrsR e.1 e.2.1 (e.2.2.take k)))∧Hid (∀ j q,j<k→e.2.2[j]? = some q→nrE e.1 e.2.1 q=0)) (fun s _=>e.2.2.length-(intOf s).toNat)
 case atStart=>exact ⟨0,0,0,none,Nat.zero_le _,rfl,by simp,lh HS.out,lh rfl,lh (SO.nil _ _ _ _ _),lh (fun j q hj=>by omega)⟩
 case round =>
  clear HS
  obtain ⟨k,n7,c7,A7,hk,rfl,hsz,HS0,HN7,HSO,HER⟩:=hrel
  by_cases hlt:k<e.2.2.length
  ·obtain ⟨p,hp⟩:∃ p,e.2.2[k]? = some p:=⟨_,gE hlt⟩
   obtain ⟨b5,o,rfl,hb5,hc⟩:=(HK.out.2.2.below HS0.out.1.low).2.2 (by omega)
   obtain ⟨C,n,x0,x1,x2⟩:=hc k p hp
   have HP:=lh hp
   have hok:=HOK.out.2.2.1 p (mG hp)
   have HNL:=lh (fun W k1 k2 k3 hm=>narL_P (l:=e.1) (r:=e.2.1) (h:=p) (ex:=false) (A:=A) (c:=c) (B:=B) (d:=d) (C:=C) (n:=n) W k1 k2 k3 hm HZ.out.1 HZ.out.2.1 (HZ.out.2.2 p (mG hp)) HOK.out.2.1 hok)
   have HSN:=lh (nrsR_snoc (l:=e.1) (r:=e.2.1) hp)
   have HQ:At (fun W=>((BN w [(w.heap.size,enV e A c B d (some ⟨b5,o,none⟩) h),(w.heap.size+1,[.slice none 0 0,.bool false,.slice none 0 0])] W∧BNX W (w.heap.size+1+1) [.slice B e.2.1.1.length d,.bool e.2.1.2,.slice A7 n7 c7])∧SO elP W (w.heap.size+1+1+1) 45 (.slice A7 n7 c7) (fun j=>j=w.heap.size+1+1∨j=w.heap.size+1) (nrsR e.1 e.2.1 (e.2.2.take k)))∧BX W wr.heap.size [.slice C p.1.length n,.bool p.2]∧RT W C n p.1) (wr.alloc (.cells #[.slice C p.1.length n,.bool p.2] 45)) :=
    ⟨fun X Y h hb=>⟨⟨⟨BN.kept _ _ _ _ h.1.1.1 hb,h.1.1.2.below hb⟩,h.1.2.below hb⟩,h.2.1.below hb,h.2.2.below hb⟩,⟨⟨HS0.out.1.at_.go (ba _ _) |>.out,HS0.out.2.below (ba _ _)⟩,HSO.out.below (ba _ _)⟩,BX.new wr _ _ rfl,x2.below (ba _ _)⟩
   have HOL:Hid (∀ j,(Value.slice A7 n7 c7).ownBlock=some j→w.heap.size+1+1+1≤j∧j<wr.heap.size):=lh (fun j hj=>HSO.out.own j hj)
   clear hc hp x2 HS0 HSO
   go_upto_region 5 with (fail)
   clear x0 x1
   go_cut [7,8,9] (fun s7 s8 s9 wx=>∃ (g7 c2 d2:Nat) (A2 B2:Option Addr),s7=.pointer (some ⟨g7,0,none⟩)∧s8=.bool (nrO e.1 e.2.1 p)∧s9=.int .i64 (nrE e.1 e.2.1 p)∧Hid (BX wx g7 [.bool false,.slice A2 (nrL e.1 e.2.1 p).1.length c2,.bool (nrL e.1 e.2.1 p).2,.slice B2 (nrR e.1 e.2.1 p).1.length d2,.bool (nrR e.1 e.2.1 p).2])∧Hid (RT wx B2 d2 (nrR e.1 e.2.1 p).1)∧Hid ((BN w [(w.heap.size,enV e A c B d (some ⟨b5,o,none⟩) h),(w.heap.size+1,[.slice none 0 0,.bool false,.slice none 0 0])] wx∧BNX wx (w.heap.size+1+1) [.slice B e.2.1.1.length d,.bool e.2.1.2,.slice A7 n7 c7])∧SO elP wx (w.heap.size+1+1+1) 45 (.slice A7 n7 c7) (fun j=>j=w.heap.size+1+1∨j=w.heap.size+1) (nrsR e.1 e.2.1 (e.2.2.take k))))
   case first =>
    have HKS:Hid (∀ W,(((BN w [(w.heap.size,enV e A c B d (some ⟨b5,o,none⟩) h),(w.heap.size+1,[.slice none 0 0,.bool false,.slice none 0 0])] W∧BNX W (w.heap.size+1+1) [.slice B e.2.1.1.length d,.bool e.2.1.2,.slice A7 n7 c7])∧SO elP W (w.heap.size+1+1+1) 45 (.slice A7 n7 c7) (fun j=>j=w.heap.size+1+1∨j=w.heap.size+1) (nrsR e.1 e.2.1 (e.2.2.take k)))∧BX W wr.heap.size [.slice C p.1.length n,.bool p.2]∧RT W C n p.1)→W.cell? ⟨w.heap.size,0,none⟩=some (.slice A e.1.1.length c)∧W.cell? ⟨w.heap.size,1,none⟩=some (.bool e.1.2)∧W.cell? ⟨w.heap.size,2,none⟩=some (.slice B e.2.1.1.length d)∧W.cell? ⟨w.heap.size,3,none⟩=some (.bool e.2.1.2)∧W.cell? ⟨w.heap.size,4,none⟩=some (.slice (some ⟨b5,o,none⟩) e.2.2.length h)∧W.cell? ⟨wr.heap.size,0,none⟩=some (.slice C p.1.length n)∧W.cell? ⟨wr.heap.size,1,none⟩=some (.bool p.2)):=lh (fun W h=>⟨(h.1.1.1.get 0 rfl).1 0 _ rfl,(h.1.1.1.get 0 rfl).1 1 _ rfl,(h.1.1.1.get 0 rfl).1 2 _ rfl,(h.1.1.1.get 0 rfl).1 3 _ rfl,(h.1.1.1.get 0 rfl).1 4 _ rfl,h.2.1.c2.1,h.2.1.c2.2⟩)
    have HK5:Hid (∀ W g a1 a2 a3 a4 a5,(((BN w [(w.heap.size,enV e A c B d (some ⟨b5,o,none⟩) h),(w.heap.size+1,[.slice none 0 0,.bool false,.slice none 0 0])] W∧BNX W (w.heap.size+1+1) [.slice B e.2.1.1.length d,.bool e.2.1.2,.slice A7 n7 c7])∧SO elP W (w.heap.size+1+1+1) 45 (.slice A7 n7 c7) (fun j=>j=w.heap.size+1+1∨j=w.heap.size+1) (nrsR e.1 e.2.1 (e.2.2.take k)))∧BX W wr.heap.size [.slice C p.1.length n,.bool p.2]∧RT W C n p.1)→g≠w.heap.size→g≠wr.heap.size→(((((W.setCell ⟨g,0,none⟩ a1).setCell ⟨g,1,none⟩ a2).setCell ⟨g,2,none⟩ a3).setCell ⟨g,3,none⟩ a4).setCell ⟨g,4,none⟩ a5).cell? ⟨w.heap.size,0,none⟩=some (.slice A e.1.1.length c)∧(((((W.setCell ⟨g,0,none⟩ a1).setCell ⟨g,1,none⟩ a2).setCell ⟨g,2,none⟩ a3).setCell ⟨g,3,none⟩ a4).setCell ⟨g,4,none⟩ a5).cell? ⟨w.heap.size,1,none⟩=some (.bool e.1.2)∧(((((W.setCell ⟨g,0,none⟩ a1).setCell ⟨g,1,none⟩ a2).setCell ⟨g,2,none⟩ a3).setCell ⟨g,3,none⟩ a4).setCell ⟨g,4,none⟩ a5).cell? ⟨w.heap.size,2,none⟩=some (.slice B e.2.1.1.length d)∧(((((W.setCell ⟨g,0,none⟩ a1).setCell ⟨g,1,none⟩ a2).setCell ⟨g,2,none⟩ a3).setCell ⟨g,3,none⟩ a4).setCell ⟨g,4,none⟩ a5).cell? ⟨w.heap.size,3,none⟩=some (.bool e.2.1.2)∧(((((W.setCell ⟨g,0,none⟩ a1).setCell ⟨g,1,none⟩ a2).setCell ⟨g,2,none⟩ a3).setCell ⟨g,3,none⟩ a4).setCell ⟨g,4,none⟩ a5).cell? ⟨w.heap.size,4,none⟩=some (.slice (some ⟨b5,o,none⟩) e.2.2.length h)∧(((((W.setCell ⟨g,0,none⟩ a1).setCell ⟨g,1,none⟩ a2).setCell ⟨g,2,none⟩ a3).setCell ⟨g,3,none⟩ a4).setCell ⟨g,4,none⟩ a5).cell? ⟨wr.heap.size,0,none⟩=some (.slice C p.1.length n)∧(((((W.setCell ⟨g,0,none⟩ a1).setCell ⟨g,1,none⟩ a2).setCell ⟨g,2,none⟩ a3).setCell ⟨g,3,none⟩ a4).setCell ⟨g,4,none⟩ a5).cell? ⟨wr.heap.size,1,none⟩=some (.bool p.2)):=lh (fun W g a1 a2 a3 a4 a5 h n1 n2=>by
     obtain ⟨e1,e2,e3,e4,e5,e6,e7⟩:=HKS.out W h
     rw [set5_other _ _ _ _ _ (Ne.symm n1),set5_other _ _ _ _ _ (Ne.symm n1),set5_other _ _ _ _ _ (Ne.symm n1),set5_other _ _ _ _ _ (Ne.symm n1),set5_other _ _ _ _ _ (Ne.symm n1),set5_other _ _ _ _ _ (Ne.symm n2),set5_other _ _ _ _ _ (Ne.symm n2)]
     exact ⟨e1,e2,e3,e4,e5,e6,e7⟩)
    generalize nrL e.1 e.2.1 p=NL at *
    generalize nrR e.1 e.2.1 p=NR at *
    generalize nrO e.1 e.2.1 p=NO at *
    generalize nrE e.1 e.2.1 p=NE at *
    go_region_held3 (fun W=>W.cell? ⟨w.heap.size,0,none⟩=some (.slice A e.1.1.length c)∧W.cell? ⟨w.heap.size,1,none⟩=some (.bool e.1.2)∧W.cell? ⟨w.heap.size,2,none⟩=some (.slice B e.2.1.1.length d)∧W.cell? ⟨w.heap.size,3,none⟩=some (.bool e.2.1.2)∧W.cell? ⟨w.heap.size,4,none⟩=some (.slice (some ⟨b5,o,none⟩) e.2.2.length h)∧W.cell? ⟨wr.heap.size,0,none⟩=some (.slice C p.1.length n)∧W.cell? ⟨wr.heap.size,1,none⟩=some (.bool p.2))
     (first|(with_reducible refine HK5.out _ _ _ _ _ _ _ HQ.out ?_ ?_<;>omega)|(with_reducible refine HKS.out _ (HQ.go ?_).out<;>(repeat (first|with_reducible exact Below.refl _ _|with_reducible apply Below.drew|with_reducible apply below_drewN|with_reducible apply below_al))<;>done)|go_keep)
     (first
      | (go_at_call 29;refine (HLI.out _).mono ?_;rintro x w5 ⟨rfl,hb5⟩;replace HQ:=HQ.go2 bB hb5;have hs5:wr.heap.size<w5.heap.size:=HQ.out.2.1.2.2;have hs55:=hb5.size;simp at hs55;(first|(have hz5:=(BNX.new _ [.bool false,.slice none 0 0,.bool false,.slice none 0 0,.bool false] 57 (g:=wr.heap.size+1) (by simp) (ns5 ns_bool ns_slice ns_bool ns_slice ns_bool)).drew.below hb5)|skip);clear hb5)
      | (go_at_call 44;refine (HNL.out _ (HK.out.1.below (HQ.go bB).out.1.1.1.low) (HK.out.2.1.below (HQ.go bB).out.1.1.1.low) (HQ.go bB).out.2.2 (HM.out.below (HQ.go bB).out.1.1.1.low)).mono ?_;rintro x w6 ⟨A2,c2,B2,d2,rfl,⟨hl6,hr6⟩,hb6⟩;replace HQ:=HQ.go2 bB hb6;have HR6:=lh hr6;(first|(have hz6:=hz5.below hb6;clear hz5)|(have hz6:=(BNX.new w5 [.bool false,.slice none 0 0,.bool false,.slice none 0 0,.bool false] 57 (g:=w5.heap.size) (by simp) (ns5 ns_bool ns_slice ns_bool ns_slice ns_bool)).below hb6)|skip);(try (obtain ⟨z0,z1,z2,z3,z4⟩:=hz6.1.c5;have zf0:=hz6.1.2.1 0;have zf1:=hz6.1.2.1 1;have zf2:=hz6.1.2.1 2;have zf3:=hz6.1.2.1 3;have zf4:=hz6.1.2.1 4;have zl:=hz6.1.2.2));clear hl6 hr6 hb6))
    all_goals
     go_wp2_with fail
     go_meet
     first
     | exact ⟨_,c2,d2,A2,B2,rfl,rfl,rfl,lh (hz6.1.set5 _ _ _ _ _),lh (HR6.out.ch (ch_set5 (K:=fun _=>True) trivial hz6.2 ns_bool ns_slice ns_bool ns_slice _)),lh ⟨⟨HQ.out.1.1.1.grown (gb_set5 _ _ _ _ _) (fun j e=>by cases e;exact bb2' (by omega)),HQ.out.1.1.2.grown (gb_set5 _ _ _ _ _) (fun e=>by have:=Option.some.inj e;omega)⟩,HQ.out.1.2.chP (ch_set5 (K:=fun j=>j=wr.heap.size+1∨j=w5.heap.size) (by simp) hz6.2 ns_bool ns_slice ns_bool ns_slice _) (fun j hj e=>by have:=HOL.out j hj;omega)⟩⟩
     | exact ⟨_,c2,d2,A2,B2,rfl,rfl,rfl,lh (BX.new w6 [_,_,_,_,_] _ rfl),lh (HR6.out.below (ba _ _)),lh (HQ.go (ba _ _)).out.1⟩
   case rest =>
    obtain ⟨g7,c2,d2,A2,B2,rfl,rfl,rfl,HX7,HR7,HST⟩:=hcut
    obtain ⟨x0,x1,x2,x3,x4⟩:=HX7.out.c5
    obtain ⟨y0,y1,y2⟩:=HST.out.1.2.1.c3
    by_cases hne:nrE e.1 e.2.1 p=0
    ·rw [hne]
     have HER2:Hid (∀ j q,j<k+1→e.2.2[j]? = some q→nrE e.1 e.2.1 q=0):=lh (fun j q hj hq=>by
      rcases Nat.lt_or_ge j k with h1|h1
      ·exact HER.out j q h1 hq
      ·obtain rfl:j=k:=by omega
       rw [HP.out] at hq
       cases hq
       exact hne)
     clear hne HER
     cases hno:nrO e.1 e.2.1 p with
     | false =>
      have HSN2:Hid (nrsR e.1 e.2.1 (e.2.2.take (k+1))=nrsR e.1 e.2.1 (e.2.2.take k)):=lh (by rw [HSN.out,hno];simp)
      clear hno
      go_wp2_with fail
      go_roundw
      case rel=>exact ⟨k+1,n7,c7,A7,by omega,by go_num,by have:=HST.out.1.2.1.2.2;omega,lh HST.out.1,lh (by rw [HSN2.out,HN7.out]),lh (by rw [HSN2.out];exact HST.out.2),HER2⟩
      case measure=>simp [intOf];omega
     | true =>
      have HSN2:Hid (nrsR e.1 e.2.1 (e.2.2.take (k+1))=nrsR e.1 e.2.1 (e.2.2.take k)++[nrR e.1 e.2.1 p]):=lh (by rw [HSN.out,hno];simp)
      have hnl:=nrsR_len e.1 e.2.1 (e.2.2.take k)
      rw [List.length_take] at hnl
      have hn8:(Value.slice A7 n7 c7).ownBlock≠some (w.heap.size+1+1):=fun e=>by have:=HOL.out _ e;omega
      have gf:wc.frozen? ⟨w.heap.size+1+1,2,none⟩=false:=HST.out.1.2.1.2.1 2
      have hs66:w.heap.size+1+1<wc.heap.size:=HST.out.1.2.1.2.2
      have hs67:=HX7.out.2.2
      clear hno
      have hbn:Hid (BN w [(w.heap.size,enV e A c B d (some ⟨b5,o,none⟩) h),(w.heap.size+1,[.slice none 0 0,.bool false,.slice none 0 0])] wc):=lh HST.out.1.1
      go_wp2_with (at_builtin;refine wpList_append_so1 elP elPT rfl _ _ rfl (w.heap.size+1+1+1) _ (fun j=>j=w.heap.size+1+1∨j=w.heap.size+1) (nrsR e.1 e.2.1 (e.2.2.take k)) (nrR e.1 e.2.1 p) [.slice B2 (nrR e.1 e.2.1 p).1.length d2,.bool (nrR e.1 e.2.1 p).2] wc.heap.size 1 rfl rfl (HST.out.2.below (ba _ _)) ⟨B2,d2,rfl,HR7.out.below (ba _ _)⟩ (cells_new _ [_,_] _ rfl) (by simp) (by omega) (by omega) (by omega) (by simp;omega) ?_;intro v8 w8 hso8 hg8 hor8;obtain ⟨A8,n8,c8,rfl,hn8l⟩:=so_shape hso8;have HSO8:=lh hso8;have HBX8:=lh ((HST.out.1.2.below (ba _ _)).grown hg8 hn8);have HBN8:=lh ((hbn.out.at_.go (ba _ _)).out.grown hg8 (fun j hj=>bb2' (by have:=HOL.out j hj;omega)));have gf8:w8.frozen? ⟨w.heap.size+1+1,2,none⟩=false:=HBX8.out.1.2.1 2;obtain ⟨y08,y18,y28⟩:=HBX8.out.1.c3;clear hso8 hg8 hor8)
      go_roundw
      case rel=>exact ⟨k+1,n8,c8,A8,by omega,by go_num,by have:=HBX8.out.1.2.2;simp only [World.setCell];simp;omega,lh ⟨HBN8.out.grown (gb_set (p:=⟨w.heap.size+1+1,2,none⟩) (World.grownBy.refl _ _) (.inl rfl) _) (fun j e=>by cases e;exact bb2' (Nat.lt_succ_self _)),HBX8.out.1.set (j:=2) (by simp) _,HBX8.out.2.set 2 ns_slice⟩,lh (by rw [HSN2.out];exact hn8l.out),lh (by rw [HSN2.out];exact HSO8.out.ch (Ch.set (K:=(fun j=>j=w.heap.size+1+1∨j=w.heap.size+1)) (p:=⟨w.heap.size+1+1,2,none⟩) (by simp) HBX8.out.2 _) (fun j hj e=>by have:=(HSO8.out.own j hj).1;omega)),HER2⟩
      case measure=>simp [intOf];omega
    ·have HY:Hid (nrsE e.1 e.2.1 e.2.2=true):=lh (nrsE_yes HP.out hne)
     have hneb:(nrE e.1 e.2.1 p != 0)=true:=by simpa using hne
     obtain ⟨r0,r1,r2⟩:=(HST.out.1.1.get 1 rfl).c3
     have f0:=(HST.out.1.1.get 1 rfl).2.1 0
     have f1:=(HST.out.1.1.get 1 rfl).2.1 1
     have f2:=(HST.out.1.1.get 1 rfl).2.1 2
     have HLW:=lh HST.out.1.1.low
     clear HST HX7 x0 x1 x2 x3 x4 y0 y1 y2
     go_wp2_with fail
     refine bodyPost_ret (v:=.tuple #[.agg #[.slice none 0 0,.bool false,.slice none 0 0],.int .i64 72]) (by simp [results,Tryz.results24,go_sem,r0,r1,r2,f0,f1,f2]) rfl ⟨fun h=>absurd (HY.out.symm.trans h) (by decide),fun _=>⟨rfl,?_⟩⟩
     exact below_set3 HLW.out (by omega) _ _ _
  ·obtain rfl:k=e.2.2.length:=by omega
   rw [List.take_length] at HN7 HSO
   have HNO:=lh (nrsE_no HER.out)
   obtain ⟨y0,y1,y2⟩:=HS0.out.2.1.c3
   obtain ⟨r0,r1,r2⟩:=(HS0.out.1.get 1 rfl).c3
   have f0:=(HS0.out.1.get 1 rfl).2.1 0
   have f1:=(HS0.out.1.get 1 rfl).2.1 1
   have f2:=(HS0.out.1.get 1 rfl).2.1 2
   go_wp2_with fail
   refine bodyPost_ret (v:=.tuple #[.agg #[.slice B e.2.1.1.length d,.bool e.2.1.2,.slice A7 n7 c7],.int .i64 0]) (by simp [results,Tryz.results24,go_sem,r0,r1,r2,f0,f1,f2]) rfl ⟨fun _=>?_,fun h=>absurd (HNO.out.symm.trans h) (by decide)⟩
   obtain ⟨A9,c9,e9,hsv,-,hbl⟩:=HSO.out.read (fun j hj e=>by omega)
   cases e9
   exact ⟨A7,c7,by rw [HN7.out],⟨hsv.bt.set3 (fun a ea=>by have:=hbl a ea;omega) (HS0.out.1.ns 1 rfl) ns_slice ns_bool _,fun a ea=>Nat.le_trans (by omega) (hbl a ea)⟩,below_set3 HS0.out.1.low (by omega) _ _ _⟩
open Go.RowKit
def cmnF (g1 g2:Rg):Bool:=metO g1.1 g2.1&&!voidF (met g1.1 g2.1) (g1.2++g2.2)
set_option maxRecDepth 100000 in
theorem common_any (g1 g2:Rg) (B1 A1 B2 A2:Option Addr) (d1 c1 d2 c2:Nat) (w:World) (h1:RG w g1 B1 d1 A1 c1) (h2:RG w g2 B2 d2 A2 c2) (o1:okRg g1) (o2:okRg g2) (z1:szR 5000 g1) (z2:szR 5000 g2) :
 Calls Tryz.prog 62 #[.agg #[.slice B1 g1.1.1.length d1,.bool g1.1.2,.slice A1 g1.2.length c1],.agg #[.slice B2 g2.1.1.length d2,.bool g2.1.2,.slice A2 g2.2.length c2]] w fun x w'=>x=.returned (.bool (cmnF g1 g2))∧Below w.heap.size w w':=by
 have HS:At (BN w [(w.heap.size,rgV g1 B1 d1 A1 c1),(w.heap.size+1,rgV g2 B2 d2 A2 c2)]) ((w.alloc (.cells #[.slice B1 g1.1.1.length d1,.bool g1.1.2,.slice A1 g1.2.length c1] 48)).alloc (.cells #[.slice B2 g2.1.1.length d2,.bool g2.1.2,.slice A2 g2.2.length c2] 48)) :=
  (((BN.nil w).push (rgV g1 B1 d1 A1 c1) 48 rfl (rgV_ns _ _ _ _ _)).push (rgV g2 B2 d2 A2 c2) 48 (g:=w.heap.size+1) (by simp) (rgV_ns _ _ _ _ _)).at_
 have HME:=lh (fun W (h:Below w.heap.size w W)=>meet_any B1 B2 d1 d2 g1.1.1 g2.1.1 g1.1.2 g2.1.2 W (h1.1.below h) (h2.1.below h) (five9 z1.1) (five9 z2.1))
 have HH1:=lh h1.2
 have HH2:=lh h2.2
 have hhl:g1.2.length+g2.2.length≤128:=by have:=o1.2.2;have:=o2.2.2;omega
 have HPS:Hid (∀ q∈g1.2++g2.2,szP q):=lh (fun q hq=>by
  rcases List.mem_append.1 hq with hq|hq
  ·exact szP_of (o1.2.1 q hq) (z1.2 q hq) (Nat.le_refl _)
  ·exact szP_of (o2.2.1 q hq) (z2.2 q hq) (Nat.le_refl _))
 have HZ1:=lh z1.1
 have HZ2:=lh z2.1
 clear h1 h2 o1 o2 z1 z2
 obtain ⟨a0,a1,a2⟩:=(HS.out.get 0 rfl).c3
 obtain ⟨b0,b1,b2⟩:=(HS.out.get 1 rfl).c3
 cases hm:metO g1.1 g2.1 with
 | false =>
  have HM2:=lh (fun W h=>(HME.out W h).mono fun _ _ h=>h.2 (show meetOk g1.1.1 g2.1.1 g1.1.2 g2.1.2=false from hm))
  have HR:Hid (cmnF g1 g2=false):=lh (by unfold cmnF;rw [hm];rfl)
  clear hm HME
  go_enter Tryz.func62,Tryz.ntmps62
  go_upto_region 2 with (go_at_call 58;refine (HM2.out _ (HS.go bB).out.low).mono ?_;rintro x w2 ⟨C,n,rfl,-,hb2⟩;replace HS:=HS.go2 bB hb2;clear hb2 a0 a1 a2 b0 b1 b2)
  go_quiet (fail)
  go_wp2_with fail
  go_ret
  exact ⟨by rw [HR.out];rfl,(HS.go bB).out.low⟩
 | true =>
  have HM2:=lh (fun W h=>(HME.out W h).mono fun _ _ h=>h.1 (show meetOk g1.1.1 g2.1.1 g1.1.2 g2.1.2=true from hm))
  have HMT:Hid (meetL g1.1.1 g2.1.1=(met g1.1 g2.1).1∧(g1.1.2&&g2.1.2)=(met g1.1 g2.1).2):=lh ⟨rfl,rfl⟩
  rw [HMT.out.1,HMT.out.2] at HM2
  have HMS:Hid (szP (met g1.1 g2.1)):=lh ⟨met_sz hm HZ1.out HZ2.out,by have:=(okPn_len (met_ok hm)).2;omega⟩
  have HR:Hid (cmnF g1 g2=!voidF (met g1.1 g2.1) (g1.2++g2.2)):=lh (by unfold cmnF;rw [hm];rfl)
  have HV:=lh (fun (C A5:Option Addr) (n c5:Nat) W h k=>void_any C A5 n c5 (met g1.1 g2.1) (g1.2++g2.2) W h k HMS.out HPS.out)
  have HCC:=lh (fun g W (hbx:BX W g [.slice A1 g1.2.length c1,.slice A2 g2.2.length c2]) (hlow:Below w.heap.size w W)=>concat2_any g 2 A1 A2 c1 c2 g1.2 g2.2 W hbx (HH1.out.below hlow) (HH2.out.below hlow) (by omega) (by omega) (by omega))
  clear hm HME HMT HPS HMS HZ1 HZ2
  generalize voidF (met g1.1 g2.1) (g1.2++g2.2)=v at *
  generalize g1.2++g2.2=L at *
  generalize met g1.1 g2.1=M at *
  go_enter Tryz.func62,Tryz.ntmps62
  go_upto_region 2 with (go_at_call 58;refine (HM2.out _ (HS.go bB).out.low).mono ?_;rintro x w2 ⟨C,n,rfl,hrt,hb2⟩;replace HS:=HS.go2 bB hb2;have HRT:=lh hrt;clear hb2 hrt a0 a1 a2 b0 b1 b2)
  have HQ:At (fun W=>BX W w2.heap.size [.slice C M.1.length n,.bool M.2]∧RT W C n M.1∧BN w [(w.heap.size,rgV g1 B1 d1 A1 c1),(w.heap.size+1,rgV g2 B2 d2 A2 c2)] W) (w2.alloc (.cells #[.slice C M.1.length n,.bool M.2] 45)) :=
   ⟨fun X Y h hb=>⟨h.1.below hb,h.2.1.below hb,BN.kept _ _ _ _ h.2.2 hb⟩,BX.new w2 _ _ rfl,HRT.out.below (ba _ _),(HS.go (ba _ _)).out⟩
  clear HS HRT
  have HKS:Hid (∀ W,(BX W w2.heap.size [.slice C M.1.length n,.bool M.2]∧RT W C n M.1∧BN w [(w.heap.size,rgV g1 B1 d1 A1 c1),(w.heap.size+1,rgV g2 B2 d2 A2 c2)] W) →
   W.cell? ⟨w2.heap.size,0,none⟩=some (.slice C M.1.length n)∧W.cell? ⟨w2.heap.size,1,none⟩=some (.bool M.2)∧W.cell? ⟨w.heap.size,2,none⟩=some (.slice A1 g1.2.length c1)∧W.cell? ⟨w.heap.size+1,2,none⟩=some (.slice A2 g2.2.length c2)):=lh (fun W h=>⟨h.1.c2.1,h.1.c2.2,(h.2.2.get 0 rfl).1 2 _ rfl,(h.2.2.get 1 rfl).1 2 _ rfl⟩)
  go_region_held3 (fun W=>W.cell? ⟨w2.heap.size,0,none⟩=some (.slice C M.1.length n)∧W.cell? ⟨w2.heap.size,1,none⟩=some (.bool M.2)∧W.cell? ⟨w.heap.size,2,none⟩=some (.slice A1 g1.2.length c1)∧W.cell? ⟨w.heap.size+1,2,none⟩=some (.slice A2 g2.2.length c2))
   (first|(with_reducible refine HKS.out _ (HQ.go ?_).out<;>(repeat (first|with_reducible exact Below.refl _ _|with_reducible apply Below.drew|with_reducible apply below_drewN|with_reducible apply below_al))<;>done)|go_keep)
   (first
    | (go_at_call 40;refine (HCC.out _ _ (BX.new _ [_,_] _ (by simp)).drew (HQ.go bB).out.2.2.low).mono ?_;rintro x w5 ⟨v5,rfl,hso,hb5⟩;replace HQ:=HQ.go2 bB hb5;obtain ⟨A5,c5,rfl,hsv,-,-⟩:=hso.read (fun _ _ h=>h);have HSV:=lh hsv;clear hso hsv hb5)
    | (go_at_call 75;refine (HV.out C A5 n c5 _ (HQ.go bB).out.2.1 ((HSV.out.below bB).bt)).mono ?_;rintro x w6 ⟨rfl,hb6⟩;replace HQ:=HQ.go2 bB hb6;clear hb6))
  all_goals
   go_wp2_with fail
   go_ret
   exact ⟨by rw [HR.out];rfl,HQ.out.2.2.low⟩
end Go.Proofs.YtelkmeiepliecaaGreatDoor
