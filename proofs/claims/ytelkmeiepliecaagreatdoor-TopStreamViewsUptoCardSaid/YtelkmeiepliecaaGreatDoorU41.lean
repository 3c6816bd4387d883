/-
  Part 41 of the proof.
-/
import Derived.Test.YtelkmeiepliecaaGreatDoorU40
set_option linter.unusedSimpArgs false
set_option linter.unusedVariables false
set_option maxHeartbeats 16000000
namespace Go.Proofs.YtelkmeiepliecaaGreatDoor
open Pm
open Go.RowKit
theorem narR_P {l r h:Pn} {A:Option Addr} {c:Nat} {B:Option Addr} {d:Nat} {C:Option Addr} {n:Nat} (w:World) (k1:RT w A c r.1) (k2:RT w B d l.1) (k3:RT w C n h.1) (hm:ML w) (hr:rlOk l r) (z1:szN 5000 l) (z2:szN 5000 r) (z3:szN 5000 h) (o1:okPn l) (o3:okPn h) :
 Calls Tryz.prog 31 #[.agg #[.bool false,.slice A r.1.length c,.bool r.2,.slice B l.1.length d,.bool l.2],.agg #[.slice C h.1.length n,.bool h.2]] w fun e w' =>
  ∃ A2 c2 B2 d2,e=.returned (.tuple #[.agg #[.bool false,.slice A2 (nrR l r h).1.length c2,.bool (nrR l r h).2,.slice B2 (nrL l r h).1.length d2,.bool (nrL l r h).2],.bool (nrO l r h),.int .i64 (nrE l r h)])∧(RT w' A2 c2 (nrR l r h).1∧RT w' B2 d2 (nrL l r h).1)∧Below w.heap.size w w' :=
 (narrowR_any false A c r.1 r.2 B d l.1 l.2 C n h.1 h.2 w k1 k2 k3 hm z2 z1 z3 (by have:=(okPn_len o1).2;omega) (by have:=(okPn_len o3).2;omega)).mono fun e w' h=>by
  obtain ⟨A2,c2,B2,d2,e1,h1,h2,h3⟩:=h
  have hrev:ruleE r.1 r.2 l.1 l.2=0:=by
   obtain ⟨k1,k2,k3,k4⟩:=ruleE_zero.1 hr
   exact ruleE_zero.2 ⟨k2,k1,k3.symm,k4.symm⟩
  refine ⟨A2,c2,B2,d2,?_,⟨h1,h2⟩,h3⟩
  rw [e1]
  unfold nriE
  rw [if_neg (by simp [hrev])]
  rfl
def RetEn (w:World) (q:Pc) (e:Ending) (w':World):Prop :=
 (entE q=false→∃ A c B d H h,e=.returned (.tuple #[.agg (enV (entF q) A c B d H h).toArray,.int .i64 0])∧EG w' (entF q) A c B d H h∧(∀ a,H=some a→w.heap.size≤a.block)∧Below w.heap.size w w') ∧
 (entE q=true→e=.returned (.tuple #[.agg #[.slice none 0 0,.bool false,.slice none 0 0,.bool false,.slice none 0 0],.int .i64 80])∧Below w.heap.size w w')
theorem RetEn.ok {w w':World} {q:Pc} {e:Ending} {A B H:Option Addr} {c d h:Nat} {E:En} (he:entE q=false) (hE:entF q=E) (hx:e=.returned (.tuple #[.agg (enV E A c B d H h).toArray,.int .i64 0])) (hg:EG w' E A c B d H h) (hf:∀ a,H=some a→w.heap.size≤a.block) (hb:Below w.heap.size w w'):RetEn w q e w':=by
 subst hE
 exact ⟨fun _=>⟨A,c,B,d,H,h,hx,hg,hf,hb⟩,fun h=>(by rw [he] at h;cases h)⟩
theorem RetEn.bad {w w':World} {q:Pc} {e:Ending} (he:entE q=true) (hx:e=.returned (.tuple #[.agg #[.slice none 0 0,.bool false,.slice none 0 0,.bool false,.slice none 0 0],.int .i64 80])) (hb:Below w.heap.size w w'):RetEn w q e w' :=
 ⟨fun h=>(by rw [he] at h;cases h),fun _=>⟨hx,hb⟩⟩
theorem bset5 {B g:Nat} {w w':World} (h:Below B w w') (hg:B≤g) (a b c d e:Value):Below B w (((((w'.setCell ⟨g,0,none⟩ a).setCell ⟨g,1,none⟩ b).setCell ⟨g,2,none⟩ c).setCell ⟨g,3,none⟩ d).setCell ⟨g,4,none⟩ e) :=
 ((((h.setCell (p:=⟨g,0,none⟩) hg a).setCell (p:=⟨g,1,none⟩) hg b).setCell (p:=⟨g,2,none⟩) hg c).setCell (p:=⟨g,3,none⟩) hg d).setCell (p:=⟨g,4,none⟩) hg e
set_option maxRecDepth 100000 in
theorem entry_any (q:Pc) (B:Option Addr) (d:Nat) (A:Option Addr) (c:Nat) (C:Option Addr) (n:Nat) (D:Option Addr) (m:Nat) (w:World) (hq:PG w q B d A c C n D m) (hr:rlOk q.2.2.1 q.2.2.2) (o1:okPn q.2.2.1) (o2:okPn q.2.2.2) (oh:∀ p∈q.1.2,okPn p) (hl:q.1.2.length≤64) (z1:szN 5000 q.2.2.1) (z2:szN 5000 q.2.2.2) (zh:∀ p∈q.1.2,szN 5000 p) (zr:∀ p∈nrsR q.2.2.1 q.2.2.2 q.1.2,szP p) (hm:ML w) :
 Calls Tryz.prog 53 #[.agg (pcV q B d A c C n D m).toArray] w (RetEn w q):=by
 obtain ⟨⟨b,hs⟩,k,l,r⟩:=q
 simp only at hr o1 o2 oh hl z1 z2 zh zr
 have HTN:=lh (fun W (h:PG W ((b,hs),k,l,r) B d A c C n D m) hm=>(turn_any false C D n m l.1 r.1 l.2 r.2 W h.2.1 h.2.2 hm (by have:=(okPn_len o1).2;omega) (by have:=(okPn_len o2).2;omega)).mono fun e w' k=>show ∃ A1 c1 B1 d1,e=.returned (.agg #[.bool false,.slice A1 r.1.length c1,.bool r.2,.slice B1 l.1.length d1,.bool l.2])∧RT w' A1 c1 r.1∧RT w' B1 d1 l.1∧Below W.heap.size W w' from k)
 have HNR:=lh (fun (W:World) (p:Pn) A c B d C n k1 k2 k3 hm (hp:p∈hs)=>narR_P (l:=l) (r:=r) (h:=p) (A:=A) (c:=c) (B:=B) (d:=d) (C:=C) (n:=n) W k1 k2 k3 hm hr z1 z2 (zh p hp) o1 (oh p hp))
 have HRD:=lh (fun (W:World) B d A c (k1:RT W B d r.1) (k2:BT W A c (nrsR l r hs))=>reduce_any B A d c r (nrsR l r hs) W k1 k2 (szP_of o2 z2 (by omega)) zr (by have:=nrsR_len l r hs;omega))
 have hbt:=hq.1.2
 have q1:=hbt.1
 have q2:=hbt.2.1
 have HBT:=lh hbt
 have h64:hs.length≤64:=hl
 have HM:=lh hm
 have HQ:At (fun W=>BX W w.heap.size (pcV ((b,hs),k,l,r) B d A c C n D m)∧BNX W (w.heap.size+1) [.slice none 0 0,.bool false,.slice none 0 0,.bool false,.slice none 0 0]∧PG W ((b,hs),k,l,r) B d A c C n D m∧Below w.heap.size w W) ((w.alloc (.cells (pcV ((b,hs),k,l,r) B d A c C n D m).toArray 71)).alloc (.cells #[.slice none 0 0,.bool false,.slice none 0 0,.bool false,.slice none 0 0] 73)) :=
  ⟨fun X Y h hb=>⟨h.1.below hb,h.2.1.below hb,h.2.2.1.below hb,go3 h.2.2.2 hb⟩,(BX.new w _ _ rfl).below (ba _ _),BNX.new _ [_,_,_,_,_] _ (by simp) (ns5 ns_slice ns_bool ns_slice ns_bool ns_slice),hq.below bB,bB⟩
 clear hq hr o1 o2 oh hl z1 z2 zh zr hm hbt
 simp only [pcV] at HQ ⊢
 go_enter Tryz.func53,Tryz.ntmps53
 go_upto_region 2 with (go_at_call 84;refine (HTN.out _ (HQ.go bB).out.2.2.1 (HM.out.below (HQ.go bB).out.2.2.2)).mono ?_;rintro x w1 ⟨A1,c1,B1,d1,rfl,ht1,ht2,hb1⟩;replace HQ:=HQ.go2 bB hb1;have HT:=lh (And.intro ht1 ht2);obtain ⟨y0,y1,y2,y3,y4,y5,y6,y7,y8⟩:=HQ.out.1.c9;have yl:=HQ.out.1.2.2;clear hb1 ht1 ht2)
 have HW:At (fun W=>(BX W w.heap.size [.slice B b.1.length d,.bool b.2,.slice A hs.length c,.int .i64 k,.bool false,.slice C l.1.length n,.bool l.2,.slice D r.1.length m,.bool r.2]∧BNX W (w.heap.size+1) [.slice none 0 0,.bool false,.slice none 0 0,.bool false,.slice none 0 0]∧BX W w1.heap.size [.bool false,.slice A1 r.1.length c1,.bool r.2,.slice B1 l.1.length d1,.bool l.2])∧(RT W A1 c1 r.1∧RT W B1 d1 l.1)∧Below w.heap.size w W) (w1.alloc (.cells #[.bool false,.slice A1 r.1.length c1,.bool r.2,.slice B1 l.1.length d1,.bool l.2] 57)) :=
  ⟨fun X Y h hb=>⟨⟨h.1.1.below hb,h.1.2.1.below hb,h.1.2.2.below hb⟩,⟨h.2.1.1.below hb,h.2.1.2.below hb⟩,go3 h.2.2 hb⟩,⟨HQ.out.1.below (ba _ _),HQ.out.2.1.below (ba _ _),BX.new w1 _ _ rfl⟩,⟨HT.out.1.below (ba _ _),HT.out.2.below (ba _ _)⟩,go3 HQ.out.2.2.2 (ba _ _)⟩
 clear HQ HT y0 y1 y2 y3 y4 y5 y6 y7 y8 yl HTN
 generalize hW1:w1.alloc (.cells #[.bool false,.slice A1 r.1.length c1,.bool r.2,.slice B1 l.1.length d1,.bool l.2] 57)=W1 at *
 clear hW1
 generalize w1.heap.size=g4 at *
 obtain ⟨y0,y1,y2,y3,y4,y5,y6,y7,y8⟩:=HW.out.1.1.c9
 go_wp2_with fail
 clear y0 y1 y2 y3 y4 y5 y6 y7 y8
 go_loopw [5,19] (fun s5 s19 wr=>∃ (i n7 c7:Nat) (A7:Option Addr),i≤hs.length∧s19=.int .i64 i∧s5=.slice A7 n7 c7∧Hid (Below W1.heap.size W1 wr)∧Hid (n7=(nrsR l r (hs.take i)).length)∧Hid (SO elP wr W1.heap.size 45 (.slice A7 n7 c7) kN (nrsR l r (hs.take i)))∧Hid (∀ j q,j<i→hs[j]? = some q→nrE l r q=0)) (fun _ s19 _=>hs.length-(intOf s19).toNat)
 case atStart=>exact ⟨0,0,0,none,Nat.zero_le _,rfl,rfl,lh (Below.refl _ _),lh rfl,lh (SO.nil _ _ _ _ _),lh (fun j q hj=>by omega)⟩
 case round =>
  obtain ⟨i,n7,c7,A7,hi,rfl,rfl,HB,HN7,HSO,HER⟩:=hrel
  by_cases hlt:i<hs.length
  ·obtain ⟨p,hp⟩:∃ p,hs[i]? = some p:=⟨_,gE hlt⟩
   obtain ⟨b5,o,rfl,hb5,hc⟩:=((HBT.out.below HW.out.2.2).below HB.out).2.2 (by omega)
   obtain ⟨C7,n8,x0,x1,x2⟩:=hc i p hp
   have HP:=lh hp
   have HSN:=lh (nrsR_snoc (l:=l) (r:=r) hp)
   have HQ:At (fun W=>BX W g4 [.bool false,.slice A1 r.1.length c1,.bool r.2,.slice B1 l.1.length d1,.bool l.2]∧(RT W A1 c1 r.1∧RT W B1 d1 l.1)∧SO elP W W1.heap.size 45 (.slice A7 n7 c7) kN (nrsR l r (hs.take i))∧RT W C7 n8 p.1∧Below W1.heap.size W1 W∧ML W) wr :=
    ⟨fun X Y h hb=>⟨h.1.below hb,⟨h.2.1.1.below hb,h.2.1.2.below hb⟩,h.2.2.1.below hb,h.2.2.2.1.below hb,go3 h.2.2.2.2.1 hb,h.2.2.2.2.2.below hb⟩,HW.out.1.2.2.below HB.out,⟨HW.out.2.1.1.below HB.out,HW.out.2.1.2.below HB.out⟩,HSO.out,x2,HB.out,HM.out.below (go3 HW.out.2.2 HB.out)⟩
   have hpm:=mG hp
   obtain ⟨z0,z1,z2,z3,z4⟩:=HQ.out.1.c5
   have zl:=HQ.out.1.2.2
   have HOL:Hid (∀ j,(Value.slice A7 n7 c7).ownBlock=some j→W1.heap.size≤j∧j<wr.heap.size):=lh (fun j hj=>HSO.out.own j hj)
   clear hc hp x2 HSO HB
   go_upto_region 7 with (go_at_call 31;refine (HNR.out _ p _ _ _ _ _ _ (HQ.go bB).out.2.1.1 (HQ.go bB).out.2.1.2 (HQ.go bB).out.2.2.2.1 (HQ.go bB).out.2.2.2.2.2 hpm).mono ?_;rintro x w5 ⟨A2,c2,B2,d2,rfl,⟨hl6,hr6⟩,hb6⟩;replace HQ:=HQ.go2 bB hb6;have HR6:=lh hl6;clear hl6 hr6 hb6)
   have HV:At (fun W=>BX W w5.heap.size [.bool false,.slice A2 (nrR l r p).1.length c2,.bool (nrR l r p).2,.slice B2 (nrL l r p).1.length d2,.bool (nrL l r p).2]∧SO elP W W1.heap.size 45 (.slice A7 n7 c7) kN (nrsR l r (hs.take i))∧RT W A2 c2 (nrR l r p).1∧Below W1.heap.size W1 W) (w5.alloc (.cells #[.bool false,.slice A2 (nrR l r p).1.length c2,.bool (nrR l r p).2,.slice B2 (nrL l r p).1.length d2,.bool (nrL l r p).2] 57)) :=
    ⟨fun X Y h hb=>⟨h.1.below hb,h.2.1.below hb,h.2.2.1.below hb,go3 h.2.2.2 hb⟩,BX.new w5 _ _ rfl,HQ.out.2.2.1.below (ba _ _),HR6.out.below (ba _ _),go3 HQ.out.2.2.2.2.1 (ba _ _)⟩
   clear HQ HR6 z0 z1 z2 z3 z4 x0 x1
   generalize hVV:w5.alloc (.cells #[.bool false,.slice A2 (nrR l r p).1.length c2,.bool (nrR l r p).2,.slice B2 (nrL l r p).1.length d2,.bool (nrL l r p).2] 57)=V at *
   clear hVV
   generalize w5.heap.size=g8 at *
   obtain ⟨z0,z1,z2,z3,z4⟩:=HV.out.1.c5
   have zl8:=HV.out.1.2.2
   have hvs:W1.heap.size≤V.heap.size:=HV.out.2.2.2.size
   by_cases hne:nrE l r p=0
   ·have HER2:Hid (∀ j q,j<i+1→hs[j]? = some q→nrE l r q=0):=lh (fun j q hj hq=>by
     rcases Nat.lt_or_ge j i with h1|h1
     ·exact HER.out j q h1 hq
     ·obtain rfl:j=i:=by omega
      rw [HP.out] at hq
      cases hq
      exact hne)
    rw [hne]
    clear hne HER
    cases hno:nrO l r p with
    | false =>
     have HSN2:Hid (nrsR l r (hs.take (i+1))=nrsR l r (hs.take i)):=lh (by rw [HSN.out,hno];simp)
     clear hno
     go_wp2_with fail
     go_roundw
     case rel=>exact ⟨i+1,n7,c7,A7,by omega,by go_num,rfl,lh HV.out.2.2.2,lh (by rw [HSN2.out,HN7.out]),lh (by rw [HSN2.out];exact HV.out.2.1),HER2⟩
     case measure=>simp [intOf];omega
    | true =>
     have HSN2:Hid (nrsR l r (hs.take (i+1))=nrsR l r (hs.take i)++[nrR l r p]):=lh (by rw [HSN.out,hno];simp)
     have hnl:=nrsR_len l r (hs.take i)
     rw [List.length_take] at hnl
     clear hno
     go_wp2_with (at_builtin;refine wpList_append_so1 elP elPT rfl _ _ rfl W1.heap.size _ kN (nrsR l r (hs.take i)) (nrR l r p) [.slice A2 (nrR l r p).1.length c2,.bool (nrR l r p).2] V.heap.size 1 rfl rfl (HV.out.2.1.below (ba _ _)) ⟨A2,c2,rfl,HV.out.2.2.1.below (ba _ _)⟩ (cells_new _ [_,_] _ rfl) (by simp) (by omega) (by omega) (by omega) (by simp;omega) ?_;intro v8 w8 hso8 hg8 hor8;obtain ⟨A8,n8',c8,rfl,hn8l⟩:=so_shape hso8;have HSO8:=lh hso8;have HB8:=lh ((go3 HV.out.2.2.2 (ba V _)).grown hg8 (go3 HV.out.2.2.2 (ba V _)).size (fun j hj=>(HV.out.2.1.own j hj).1));clear hso8 hg8 hor8)
     go_roundw
     case rel=>exact ⟨i+1,n8',c8,A8,by omega,by go_num,rfl,HB8,lh (by rw [HSN2.out];exact hn8l.out),lh (by rw [HSN2.out];exact HSO8.out),HER2⟩
     case measure=>simp [intOf];omega
   ·have HY:Hid (entE ((b,hs),k,l,r)=true):=lh (nrsE_yes HP.out hne)
    have hneb:(nrE l r p != 0)=true:=by simpa using hne
    have zz:=HW.out.1.2.1.below HV.out.2.2.2
    obtain ⟨e0,e1,e2,e3,e4⟩:=zz.1.c5
    have f0:=zz.1.2.1 0;have f1:=zz.1.2.1 1;have f2:=zz.1.2.1 2;have f3:=zz.1.2.1 3;have f4:=zz.1.2.1 4
    have HLW:=lh (go3 HW.out.2.2 HV.out.2.2.2)
    have hbx:=BX.set5 zz.1 (.slice none 0 0) (.bool false) (.slice none 0 0) (.bool false) (.slice none 0 0)
    obtain ⟨u0,u1,u2,u3',u4⟩:=hbx.c5
    clear hne zz
    generalize nrE l r p=en at *
    go_wp2_with fail
    refine bodyPost_ret (v:=.tuple #[.agg #[.slice none 0 0,.bool false,.slice none 0 0,.bool false,.slice none 0 0],.int .i64 80]) (by simp [results,Tryz.results53,go_sem,u0,u1,u2,u3',u4]) rfl ?_
    exact RetEn.bad HY.out rfl (bset5 HLW.out (by omega) _ _ _ _ _)
  ·obtain rfl:i=hs.length:=by omega
   rw [List.take_length] at HN7 HSO
   have HNO:Hid (entE ((b,hs),k,l,r)=false):=lh (nrsE_no HER.out)
   have e7:=HN7.out
   subst e7
   obtain ⟨A8,c8,e8,hsv,-,-⟩:=HSO.out.read (fun _ _ h=>h)
   simp only [Value.slice.injEq] at e8
   obtain ⟨rfl,-,rfl⟩:=e8
   have HSV:=lh hsv.bt
   have HRE:=lh (fun W (hW:Below wr.heap.size wr W)=>HRD.out W A1 c1 A7 c7 ((HW.out.2.1.1.below HB.out).below hW) (hsv.bt.below hW))
   have HEF:Hid (entF ((b,hs),k,l,r)=(r,l,redH r (nrsR l r hs))):=lh rfl
   obtain ⟨HH,hHH⟩:∃ HH,HH=redH r (nrsR l r hs):=⟨_,rfl⟩
   rw [←hHH] at HRE HEF
   unfold RetRg at HRE
   clear hHH hsv HRD HNR HER HN7 HSO
   have HZ:At (fun W=>BX W g4 [.bool false,.slice A1 r.1.length c1,.bool r.2,.slice B1 l.1.length d1,.bool l.2]∧BNX W (w.heap.size+1) [.slice none 0 0,.bool false,.slice none 0 0,.bool false,.slice none 0 0]∧RT W B1 d1 l.1∧Below w.heap.size w W) wr :=
    ⟨fun X Y h hb=>⟨h.1.below hb,h.2.1.below hb,h.2.2.1.below hb,go3 h.2.2.2 hb⟩,HW.out.1.2.2.below HB.out,HW.out.1.2.1.below HB.out,HW.out.2.1.2.below HB.out,go3 HW.out.2.2 HB.out⟩
   obtain ⟨y0,y1,y2,y3,y4⟩:=HZ.out.1.c5
   have yl:=HZ.out.1.2.2
   go_wp2_with (go_at_call 74;refine (HRE.out _ bB).mono ?_;rintro x w6 ⟨B6,d6,A6,c6,rfl,⟨k1,k2,-,k3⟩,hb6⟩;have HF6:Hid (∀ a,A6=some a→w.heap.size+1<a.block):=lh (fun a ea=>by have h9:=k3 a ea;have h8:=HZ.out.2.1.1.2.2;omega);replace HZ:=HZ.go2 bB hb6;have HK6:=lh (And.intro k1 k2);clear k1 k2 k3 hb6 y0 y1 y2 y3 y4 yl;obtain ⟨y0,y1,y2,y3,y4⟩:=HZ.out.1.c5;have yl:=HZ.out.1.2.2;obtain ⟨e0,e1,e2,e3,e4⟩:=HZ.out.2.1.1.c5;have f0:=HZ.out.2.1.1.2.1 0;have f1:=HZ.out.2.1.1.2.1 1;have f2:=HZ.out.2.1.1.2.1 2;have f3:=HZ.out.2.1.1.2.1 3;have f4:=HZ.out.2.1.1.2.1 4;have el:=HZ.out.2.1.1.2.2)
   have zz:=HZ.out.2.1
   have hlw:=HZ.out.2.2.2
   have hc:=ch_set5 (w:=w6) (g:=w.heap.size+1) (K:=fun j=>j=w.heap.size+1) rfl zz.2 (ns_slice (A:=B6) (n:=r.1.length) (c:=d6)) (ns_bool (b:=r.2)) (ns_slice (A:=B1) (n:=l.1.length) (c:=d1)) (ns_bool (b:=l.2)) (.slice A6 HH.length c6)
   have hbx:=(BX.set5 zz.1 (.slice B6 r.1.length d6) (.bool r.2) (.slice B1 l.1.length d1) (.bool l.2) (.slice A6 HH.length c6)).below (ba _ (.cells #[.slice B6 r.1.length d6,.bool r.2,.slice A6 HH.length c6] 48))
   obtain ⟨v0,v1,v2,v3,v4⟩:=hbx.c5
   refine bodyPost_ret (v:=.tuple #[.agg #[.slice B6 r.1.length d6,.bool r.2,.slice B1 l.1.length d1,.bool l.2,.slice A6 HH.length c6],.int .i64 0]) (by simp [results,Tryz.results53,go_sem,v0,v1,v2,v3,v4]) rfl ?_
   refine RetEn.ok HNO.out HEF.out (A:=B6) (c:=d6) (B:=B1) (d:=d1) (H:=A6) (h:=c6) rfl ?_ (fun a ea=>by have:=HF6.out a ea;omega) (go3 (bset5 hlw (by omega) _ _ _ _ _) (ba _ _))
   exact EG.below ⟨HK6.out.1.ch hc,HZ.out.2.2.1.ch hc,HK6.out.2.ch (fun _ a ea hk=>by have:=HF6.out a ea;omega) hc⟩ (ba _ _)
open Pm
open Go.RowKit Go.WideShapes
def RetPc (w:World) (v:Option (List Pc)) (e:Ending) (w':World):Prop :=
 (∀ ps,v=some ps→∃ A c,e=.returned (.tuple #[.slice A ps.length c,.int .i64 0])∧SV elPc w' kN A c ps∧Below w.heap.size w w') ∧
 (v=none→e=.returned (.tuple #[.slice none 0 0,.int .i64 80])∧Below w.heap.size w w')
def VzOk (q:Pc):Prop:=rlOk q.2.2.1 q.2.2.2∧okRg q.1∧szR 5000 q.1∧szN 5000 q.2.2.1∧szN 5000 q.2.2.2∧∀ p∈nrsR q.2.2.1 q.2.2.2 q.1.2,szP p
def RetVw (w:World) (v:Option (List Pc)) (e:Ending) (w':World):Prop :=
 (∀ ps,v=some ps→∃ A c B d,e=.returned (.tuple #[.slice A ps.length c,.slice B ps.length d,.int .i64 0])∧SV elPc w' kN A c ps∧SV elE w' kN B d (ps.map entF)∧Below w.heap.size w w') ∧
 (v=none→e=.returned (.tuple #[.slice none 0 0,.slice none 0 0,.int .i64 80])∧Below w.heap.size w w')
theorem RetVw.ok {w w':World} {v:Option (List Pc)} {ps:List Pc} {e:Ending} {A B:Option Addr} {c d:Nat} (hv:v=some ps) (he:e=.returned (.tuple #[.slice A ps.length c,.slice B ps.length d,.int .i64 0])) (h1:SV elPc w' kN A c ps) (h2:SV elE w' kN B d (ps.map entF)) (hb:Below w.heap.size w w'):RetVw w v e w':=by
 subst hv
 exact ⟨fun qs h=>(by cases h;exact ⟨A,c,B,d,he,h1,h2,hb⟩),fun h=>(by cases h)⟩
theorem RetVw.bad {w w':World} {v:Option (List Pc)} {e:Ending} (hv:v=none) (he:e=.returned (.tuple #[.slice none 0 0,.slice none 0 0,.int .i64 80])) (hb:Below w.heap.size w w'):RetVw w v e w':=by
 subst hv
 exact ⟨fun qs h=>(by cases h),fun _=>⟨he,hb⟩⟩
theorem rl_ok {l r:Pn} (h:rlOk l r):okPn l∧okPn r:=⟨(ruleE_zero.1 h).1,(ruleE_zero.1 h).2.1⟩
set_option maxRecDepth 100000 in
theorem view_any (g m:Nat) (A:Option Addr) (c0:Nat) (l:List St) (n i:Nat) (w:World) (hm:ML w) (hz:∀ ps,pcsF l n i=some ps→ps.length≤32∧∀ q∈ps,VzOk q)
 (hpc:∀ W,Below w.heap.size w W→Calls Tryz.prog 52 #[.pointer (some ⟨g,0,none⟩),.int .i64 i] W (RetPc W (pcsF l n i))) :
 Calls Tryz.prog 21 #[.pointer (some ⟨g,0,none⟩),.int .i64 i] w (RetVw w (vwF l n i)):=by
 have HM:=lh hm
 cases hp:pcsF l n i with
 | none =>
  have HPC:=lh (fun W hW=>(hpc W hW).mono fun _ _ k=>k.2 hp)
  have HV:Hid (vwF l n i=none):=lh (by unfold vwF;rw [hp])
  clear hpc hz hp hm
  go_enter Tryz.func21,Tryz.ntmps21
  go_wp2_with (go_at_call 52;refine (HPC.out _ bB).mono ?_;rintro e w1 ⟨rfl,hb1⟩;have HB1:=lh hb1;clear hb1)
  refine bodyPost_ret (v:=.tuple #[.slice none 0 0,.slice none 0 0,.int .i64 80]) (by simp [results,Tryz.results21,go_sem]) rfl ?_
  exact RetVw.bad HV.out rfl HB1.out
 | some ps =>
  have HPC:=lh (fun W hW=>(hpc W hW).mono fun _ _ k=>k.1 ps hp)
  have HZ:=lh (hz ps hp).2
  have h32:=(hz ps hp).1
  have HVY:Hid (ps.any entE=true→vwF l n i=none):=lh (fun h=>by unfold vwF;rw [hp];exact if_pos h)
  have HVN:Hid (ps.any entE=false→vwF l n i=some ps):=lh (fun h=>by unfold vwF;rw [hp];exact if_neg (by rw [h];decide))
  clear hpc hz hp hm
  go_enter Tryz.func21,Tryz.ntmps21
  go_wp2_with (go_at_call 52;refine (HPC.out _ bB).mono ?_;rintro e w1 ⟨A1,c1,rfl,hsv,hb1⟩;have HB1:=lh hb1;have HSV:=lh hsv;have q1:=hsv.lenc;have q2:=hsv.capc;clear hb1 hsv)
  go_loopw [9,25] (fun s9 s25 wr=>∃ (j:Nat) (A9:Option Addr) (c9:Nat),j≤ps.length∧s25=.int .i64 j∧s9=.slice A9 j c9∧Hid (Below w1.heap.size w1 wr)∧Hid (SO elE wr w1.heap.size 73 (.slice A9 j c9) kN ((ps.take j).map entF))∧Hid (∀ t q,t<j→ps[t]? = some q→entE q=false)) (fun _ s25 _=>ps.length-(intOf s25).toNat)
  case atStart=>exact ⟨0,none,0,Nat.zero_le _,rfl,rfl,lh (Below.refl _ _),lh (SO.nil _ _ _ _ _),lh (fun t q ht=>by omega)⟩
  case round =>
   obtain ⟨j,A9,c9,hj,rfl,rfl,HB,HSO,HE⟩:=hrel
   by_cases hlt:j<ps.length
   ·obtain ⟨q,hq⟩:∃ q,ps[j]? = some q:=⟨_,gE hlt⟩
    obtain ⟨b,o,B2,d2,A2,c2,C2,n2,D2,m2,rfl,hbw,hcs,hpg⟩:=(HSV.out.below HB.out).pc hq
    have x0:=hcs 0 _ rfl;have x1:=hcs 1 _ rfl;have x2:=hcs 2 _ rfl;have x3:=hcs 3 _ rfl;have x4:=hcs 4 _ rfl;have x5:=hcs 5 _ rfl;have x6:=hcs 6 _ rfl;have x7:=hcs 7 _ rfl;have x8:=hcs 8 _ rfl
    rw [Nat.add_zero] at x0
    have hzq:=HZ.out q (mG hq)
    have HEN:=lh (fun W (hW:Below wr.heap.size wr W)=>entry_any q B2 d2 A2 c2 C2 n2 D2 m2 W (hpg.below hW) hzq.1 (rl_ok hzq.1).1 (rl_ok hzq.1).2 hzq.2.1.2.1 hzq.2.1.2.2 hzq.2.2.2.1 hzq.2.2.2.2.1 hzq.2.2.1.2 hzq.2.2.2.2.2 (HM.out.below (go3 HB1.out (go3 HB.out hW))))
    simp only [pcV] at HEN
    have HQJ:=lh hq
    have HQM:=lh (mG hq)
    have HTK:Hid ((ps.take (j+1)).map entF=(ps.take j).map entF++[entF q]):=lh (by rw [List.take_add_one,hq];simp)
    have hjl:((ps.take j).map entF).length=j:=by rw [List.length_map,List.length_take];omega
    have HOL:Hid (∀ t,(Value.slice A9 j c9).ownBlock=some t→w1.heap.size≤t∧t<wr.heap.size):=lh (fun t ht=>HSO.out.own t ht)
    clear hcs hpg hzq hq
    cases he:entE q with
    | true =>
     have HEN2:=lh (fun W hW=>(HEN.out W hW).mono fun _ _ k=>k.2 he)
     have HV:=lh (HVY.out (List.any_eq_true.2 ⟨q,HQM.out,he⟩))
     clear he HEN
     go_wp2_with (go_at_call 53;refine (HEN2.out _ bB).mono ?_;rintro e w5 ⟨rfl,hb5⟩;have HB5:=lh (go3 HB1.out (go3 HB.out (go3 (ba _ _) hb5)));clear hb5)
     refine bodyPost_ret (v:=.tuple #[.slice none 0 0,.slice none 0 0,.int .i64 80]) (by simp [results,Tryz.results21,go_sem]) rfl ?_
     exact RetVw.bad HV.out rfl (go3 HB5.out bB)
    | false =>
     obtain ⟨E,HEE⟩:∃ E,Hid (entF q=E):=⟨_,lh rfl⟩
     have HEN2:=lh (fun W hW=>(HEN.out W hW).mono fun e w' k=>(show ∃ A c B d H h,e=.returned (.tuple #[.agg #[.slice A E.1.1.length c,.bool E.1.2,.slice B E.2.1.1.length d,.bool E.2.1.2,.slice H E.2.2.length h],.int .i64 0])∧EG w' E A c B d H h∧(∀ a,H=some a→W.heap.size≤a.block)∧Below W.heap.size W w' from by have:=k.1 he;rw [HEE.out] at this;exact this))
     rw [HEE.out] at HTK
     have HE2:Hid (∀ t q,t<j+1→ps[t]? = some q→entE q=false):=lh (fun t q' ht hq'=>by
      rcases Nat.lt_or_ge t j with h1|h1
      ·exact HE.out t q' h1 hq'
      ·obtain rfl:t=j:=by omega
       rw [HQJ.out] at hq'
       cases hq'
       exact he)
     clear he HEN HE
     have HSO2:=lh (HSO.out)
     go_upto_region 9 with (go_at_call 53;refine (HEN2.out _ bB).mono ?_;rintro e w5 ⟨E1,k1,E2,k2,E3,k3,rfl,hg5,hf5,hb5⟩;have HB5:=lh (go3 (go3 HB.out (ba _ _)) hb5);have HS5:=lh (HSO.out.below (go3 (ba _ _) hb5));have HG5:=lh hg5;have HF5:Hid (∀ a,E3=some a→wr.heap.size<a.block):=lh (fun a ea=>by have:=hf5 a ea;simp at this;omega);clear hg5 hf5 hb5)
     have HV:At (fun W=>BX W w5.heap.size [.slice E1 E.1.1.length k1,.bool E.1.2,.slice E2 E.2.1.1.length k2,.bool E.2.1.2,.slice E3 E.2.2.length k3]∧SO elE W w1.heap.size 73 (.slice A9 j c9) kN ((ps.take j).map entF)∧EG W E E1 k1 E2 k2 E3 k3∧Below w1.heap.size w1 W) (w5.alloc (.cells #[.slice E1 E.1.1.length k1,.bool E.1.2,.slice E2 E.2.1.1.length k2,.bool E.2.1.2,.slice E3 E.2.2.length k3] 73)) :=
      ⟨fun X Y h hb=>⟨h.1.below hb,h.2.1.below hb,h.2.2.1.below hb,go3 h.2.2.2 hb⟩,BX.new w5 _ _ rfl,HS5.out.below (ba _ _),HG5.out.below (ba _ _),go3 HB5.out (ba _ _)⟩
     clear HS5 HG5 HB5 HSO HSO2 x0 x1 x2 x3 x4 x5 x6 x7 x8
     generalize hVV:w5.alloc (.cells #[.slice E1 E.1.1.length k1,.bool E.1.2,.slice E2 E.2.1.1.length k2,.bool E.2.1.2,.slice E3 E.2.2.length k3] 73)=V at *
     clear hVV
     generalize w5.heap.size=g8 at *
     obtain ⟨z0,z1,z2,z3,z4⟩:=HV.out.1.c5
     have zl8:=HV.out.1.2.2
     have hvs:w1.heap.size≤V.heap.size:=HV.out.2.2.2.size
     go_wp2_with (at_builtin;refine wpList_append_so1 elE elET rfl _ _ rfl w1.heap.size _ kN ((ps.take j).map entF) E [.slice E1 E.1.1.length k1,.bool E.1.2,.slice E2 E.2.1.1.length k2,.bool E.2.1.2,.slice E3 E.2.2.length k3] V.heap.size 1 rfl rfl (HV.out.2.1.below (ba _ _)) ⟨E1,k1,E2,k2,E3,k3,rfl,HV.out.2.2.1.below (ba _ _),fun _ a ea hk=>(hk.elim (fun h=>by have h8:=(HOL.out _ h).2;have h9:=HF5.out a ea;omega) (fun h=>h))⟩ (cells_new _ [_,_,_,_,_] _ rfl) (by simp) (by omega) (by omega) (by omega) (by simp;omega) ?_;intro v8 w8 hso8 hg8 hor8;obtain ⟨A8,n8',c8,rfl,hn8l⟩:=so_shape hso8;have HSO8:=lh hso8;have HB8:=lh ((go3 HV.out.2.2.2 (ba V _)).grown hg8 (go3 HV.out.2.2.2 (ba V _)).size (fun t ht=>(HV.out.2.1.own t ht).1));clear hso8 hg8 hor8)
     have e8:n8'=j+1:=by have:=hn8l.out;rw [List.length_append,hjl] at this;exact this
     subst e8
     go_roundw
     case rel=>exact ⟨j+1,A8,c8,by omega,by go_num,rfl,HB8,lh (by rw [HTK.out];exact HSO8.out),HE2⟩
     case measure=>simp [intOf];omega
   ·obtain rfl:j=ps.length:=by omega
    rw [List.take_length] at HSO
    have HV:=lh (HVN.out (by
     rw [List.any_eq_false]
     intro q hq
     obtain ⟨t,ht⟩:=List.mem_iff_getElem?.1 hq
     rw [HE.out t q (sI.1 ht).1 ht]
     decide))
    go_wp2_with fail
    obtain ⟨A8,c8,e8,hsv8,-,-⟩:=HSO.out.read (fun _ _ h=>h)
    simp only [Value.slice.injEq] at e8
    obtain ⟨rfl,-,rfl⟩:=e8
    refine bodyPost_ret (v:=.tuple #[.slice A1 ps.length c1,.slice A9 ps.length c9,.int .i64 0]) (by simp [results,Tryz.results21,go_sem]) rfl ?_
    exact RetVw.ok HV.out rfl (HSV.out.below HB.out) hsv8 (go3 HB1.out HB.out)
open Pm
theorem redH_sz {m:Nat} {b:Pn} {ps:List Pn} (hb:szN m b) (hp:∀ q∈ps,szN m q):∀ h∈redH b ps,szN m h:=fun h hh=>by
 obtain ⟨x,hx,rfl⟩:=List.mem_map.1 (redH_mem hh)
 obtain ⟨hx,hm⟩:=List.mem_filter.1 hx
 exact met_sz hm hb (hp x hx)
theorem rmB_sz {m:Nat} {g1 g2:Rg} (h1:szR m g1) (h2:szR m g2) (ho:metO g1.1 g2.1=true):szR m (rmB g1 g2) :=
 ⟨met_sz ho h1.1 h2.1,redH_sz (met_sz ho h1.1 h2.1) fun q hq=>by
  rcases List.mem_append.1 hq with hq|hq
  ·exact h1.2 q hq
  ·exact h2.2 q hq⟩
theorem ownR_sz {m:Nat} {ps:List Ln} {k:Nat} {p:Ln} (hp:szN m p.2.1) (h:∀ q∈ps,szN m q.2.1):szR m (ownR ps k p) :=
 ⟨hp,redH_sz hp fun q hq=>by
  unfold laterL at hq
  obtain ⟨x,hx,rfl⟩:=List.mem_map.1 hq
  exact h x (List.mem_of_mem_drop hx)⟩
theorem stepQ_sz {m:Nat} {name:ByteArray} {p:Ln} {own:Rg} (ho:szR m own):∀ (ab:List Pc) (r rs:List Pc),(∀ q∈ab,szR m q.1)→(∀ q∈r,szR m q.1)→ab.foldl (stepQ name p own) (some r)=some rs→∀ q∈rs,szR m q.1
 | [],r,rs,ha,h,e=>by cases e;exact h
 | q::ab,r,rs,ha,h,e=>by
  rw [List.foldl_cons] at e
  cases hs:stepQ name p own (some r) q with
  | none=>rw [hs,stepQ_none] at e;cases e
  | some r2 =>
   rw [hs] at e
   refine stepQ_sz ho ab r2 rs (fun x hx=>ha x (List.mem_cons_of_mem _ hx)) ?_ e
   unfold stepQ at hs
   dsimp only at hs
   split at hs
   ·cases hs
   ·split at hs
    ·cases hs;exact h
    ·rename_i _ hro
     split at hs
     ·cases hs
     ·cases hs
      intro x hx
      rcases List.mem_append.1 hx with hx|hx
      ·exact h x hx
      ·rw [List.mem_singleton.1 hx]
       have hm:metO own.1 q.1.1=true:=by
        have h1:rmO own q.1=true:=by simpa using hro
        unfold rmO at h1
        exact (Bool.and_eq_true _ _▸h1).1
       exact rmB_sz ho (ha q List.mem_cons_self) hm
theorem rowQ_sz {m:Nat} {name:ByteArray} {ps:List Ln} {ab:List Pc} (hl:∀ p∈ps,szN m p.2.1) (ha:∀ q∈ab,szR m q.1):∀ {k:Nat} {rq:List Pc},rowQ name ps ab k=some rq→∀ q∈rq,szR m q.1
 | 0,rq,e=>by cases e;intro q hq;cases hq
 | k+1,rq,e=>by
  unfold rowQ at e
  cases hp:ps[k]? with
  | none=>rw [hp] at e;exact rowQ_sz hl ha e
  | some p =>
   rw [hp] at e
   dsimp only at e
   cases hr:rowQ name ps ab k with
   | none=>rw [hr,lineQ_none] at e;cases e
   | some r =>
    rw [hr] at e
    unfold lineQ at e
    split at e
    ·cases e;exact rowQ_sz hl ha hr
    ·exact stepQ_sz (ownR_sz (hl p (mG hp)) hl) ab r rq ha (rowQ_sz hl ha hr) e
theorem pcs_sz {m:Nat} (hm:4≤m) {l:List St} (hl:∀ s∈l,∀ p∈s.2.2,szN m p.2.1):∀ {n i:Nat} {ps:List Pc},pcsF l n i=some ps→∀ q∈ps,szR m q.1
 | 0,i,ps,h=>by cases h
 | n+1,i,ps,h=>by
  unfold pcsF at h
  split at h
  ·cases h
  ·rename_i s hs
   have hsl:=hl s (mG hs)
   split at h
   ·cases h
   ·rename_i ab hab
    refine rowQ_sz hsl ?_ h
    cases hp:parS l i with
    | some p =>
     rw [hp] at hab
     exact pcs_sz hm hl hab
    | none =>
     rw [hp] at hab
     cases hab
     intro q hq
     rw [List.mem_singleton.1 hq]
     refine ⟨fun x hx=>?_,fun y hy=>by cases hy⟩
     rw [List.mem_singleton.1 hx]
     exact Nat.le_trans (by decide +kernel) hm
theorem nw_sz {m M:Nat} {l r h:Pn} (h1:szN m l) (h2:szN M r) (h3:szN m h):szN m (nrL l r h)∧szN (m+M) (nrR l r h):=by
 unfold szN nrL nrR narL narR
 by_cases ho:narO l.1 l.2 r.1 r.2 h.1 h.2=true
 ·rw [if_pos ho,if_pos ho]
  have hm:=(nar_parts.1 ho).2.2.1
  have k1:=meet_sz hm h1 h3
  exact ⟨k1,fun y hy=>sub_sz h2 (bnd_sz k1) y hy⟩
 ·rw [if_neg ho,if_neg ho]
  exact ⟨fun y h=>(by cases h),fun y h=>(by cases h)⟩
def lnSz (m M:Nat) (q:Pc):Prop:=szR m q.1∧szN m q.2.2.1∧szN M q.2.2.2
theorem lnSz.up {m M M':Nat} {q:Pc} (h:lnSz m M q) (hM:M≤M'):lnSz m M' q:=⟨h.1,h.2.1,fun x hx=>Nat.le_trans (h.2.2 x hx) hM⟩
theorem stepQ_lz {m M:Nat} (hmM:m≤M) {name:ByteArray} (hn:name.size≤m) {p:Ln} (hp:szN m p.2.1∧szN m p.2.2) {own:Rg} (ho:szR m own):∀ (ab:List Pc) (r rs:List Pc),(∀ q∈ab,lnSz m M q)→(∀ q∈r,lnSz m (m+M) q)→ab.foldl (stepQ name p own) (some r)=some rs→∀ q∈rs,lnSz m (m+M) q
 | [],r,rs,ha,h,e=>by cases e;exact h
 | q::ab,r,rs,ha,h,e=>by
  rw [List.foldl_cons] at e
  cases hs:stepQ name p own (some r) q with
  | none=>rw [hs,stepQ_none] at e;cases e
  | some r2 =>
   rw [hs] at e
   refine stepQ_lz hmM hn hp ho ab r2 rs (fun x hx=>ha x (List.mem_cons_of_mem _ hx)) ?_ e
   unfold stepQ at hs
   dsimp only at hs
   split at hs
   ·cases hs
   ·split at hs
    ·cases hs;exact h
    ·rename_i _ hro
     split at hs
     ·cases hs
     ·cases hs
      intro x hx
      rcases List.mem_append.1 hx with hx|hx
      ·exact h x hx
      ·rw [List.mem_singleton.1 hx]
       have hm:metO own.1 q.1.1=true:=by
        have h1:rmO own q.1=true:=by simpa using hro
        unfold rmO at h1
        exact (Bool.and_eq_true _ _▸h1).1
       have hq:=ha q List.mem_cons_self
       have hg:=rmB_sz ho hq.1 hm
       have hw:szN m (wideP name p q (rmB own q.1)).1∧szN M (wideP name p q (rmB own q.1)).2:=by
        unfold wideP
        split
        ·exact ⟨hq.2.1,hq.2.2⟩
        ·split
         ·exact ⟨hp.1,fun x hx=>Nat.le_trans (hp.2 x hx) hmM⟩
         ·refine ⟨hg.1,fun x hx=>?_⟩
          unfold stoP at hx
          rcases List.mem_or_eq_of_mem_set hx with hx|rfl
          ·exact Nat.le_trans (hg.1 x hx) hmM
          ·exact Nat.le_trans hn hmM
       exact ⟨hg,nw_sz hw.1 hw.2 hg.1⟩
theorem rowQ_lz {m M:Nat} (hmM:m≤M) {name:ByteArray} (hn:name.size≤m) {ps:List Ln} {ab:List Pc} (hl:∀ p∈ps,szN m p.2.1∧szN m p.2.2) (ha:∀ q∈ab,lnSz m M q):∀ {k:Nat} {rq:List Pc},rowQ name ps ab k=some rq→∀ q∈rq,lnSz m (m+M) q
 | 0,rq,e=>by cases e;intro q hq;cases hq
 | k+1,rq,e=>by
  unfold rowQ at e
  cases hp:ps[k]? with
  | none=>rw [hp] at e;exact rowQ_lz hmM hn hl ha e
  | some p =>
   rw [hp] at e
   dsimp only at e
   cases hr:rowQ name ps ab k with
   | none=>rw [hr,lineQ_none] at e;cases e
   | some r =>
    rw [hr] at e
    unfold lineQ at e
    have hpm:=mG hp
    split at e
    ·cases e;exact rowQ_lz hmM hn hl ha hr
    ·exact stepQ_lz hmM hn (hl p hpm) (ownR_sz (hl p hpm).1 fun q hq=>(hl q hq).1) ab r rq ha (rowQ_lz hmM hn hl ha hr) e
theorem pcs_lz {m:Nat} (hm:4≤m) {l:List St} (hl:∀ s∈l,s.1.size≤m∧∀ p∈s.2.2,szN m p.2.1∧szN m p.2.2):∀ {n i:Nat} {ps:List Pc},pcsF l n i=some ps→∀ q∈ps,lnSz m (m * (n+1)) q
 | 0,i,ps,h=>by cases h
 | n+1,i,ps,h=>by
  unfold pcsF at h
  split at h
  ·cases h
  ·rename_i s hs
   have hsl:=hl s (mG hs)
   split at h
   ·cases h
   ·rename_i ab hab
    have key:=rowQ_lz (M:=m * (n+1)) (Nat.le_mul_of_pos_right m (Nat.succ_pos n)) hsl.1 hsl.2 (ab:=ab) ?_ h
    ·intro q hq
     exact (key q hq).up (by rw [Nat.mul_succ m (n+1)];omega)
    ·cases hp:parS l i with
     | some p =>
      rw [hp] at hab
      exact pcs_lz hm hl hab
     | none =>
      rw [hp] at hab
      cases hab
      intro q hq
      rw [List.mem_singleton.1 hq]
      refine ⟨⟨fun x hx=>?_,(fun y hy=>(by cases hy))⟩,(fun x hx=>(by cases hx)),(fun x hx=>(by cases hx))⟩
      rw [List.mem_singleton.1 hx]
      exact Nat.le_trans (by decide +kernel) hm
end Go.Proofs.YtelkmeiepliecaaGreatDoor
