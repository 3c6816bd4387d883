/-
  Part 32 of the proof.
-/
import Derived.Test.YtelkmeiepliecaaGreatDoorV31
import Derived.Deep.LoopGhost
set_option linter.unusedSimpArgs false
set_option linter.unusedVariables false
set_option maxHeartbeats 16000000
namespace Go.Proofs.YtelkmeiepliecaaGreatDoor
open Go.RowKit
open Pm
theorem starP_any (x:ByteArray) (w:World) :
 Calls Tryz.prog 103 #[.string x,.string ⟨#[42]⟩] w fun e w'=>e=.returned (.bool (stB x))∧w=w':=hasPrefix_any x ⟨#[42]⟩ w
theorem cap_full {p x:ByteArray} (hs:stB p=true) (h:mpOk p x=true):(mpCap p x).toList.isEmpty=false:=by
 unfold mpOk at h
 rw [if_pos hs,Bool.and_eq_true] at h
 unfold mpCap
 rw [if_pos hs,Lib.toList_data,mkB_data]
 simpa using h.2
theorem cap_none {p x:ByteArray} (hs:stB p=false):mpCap p x=⟨#[]⟩:=by
 unfold mpCap
 rw [if_neg (by rw [hs];decide)]
theorem determine_any (a b:ByteArray) (w:World) (ha:a.size≤9223372036854775807) (hb:b.size≤9223372036854775807) :
 Calls Tryz.prog 101 #[.string a,.string b] w fun e w'=>e=.returned (.tuple #[.string (detC a b),.bool (detO a b)])∧w=w':=by
 have HA:=lh (matchPart_any a b w hb)
 have HB:=lh (matchPart_any b a w ha)
 clear ha hb
 cases hsa:stB a with
 | true =>
  cases hsb:stB b with
  | true =>
   have HC:Hid (detC a b=⟨#[]⟩∧detO a b=false):=lh (by unfold detC detO;rw [if_pos hsa,if_pos hsa,if_pos hsb,hsb];exact ⟨rfl,rfl⟩)
   rw [HC.out.1,HC.out.2]
   go_enter Tryz.func101,Tryz.ntmps101
   go_wp2_with (go_at_call 103;refine (starP_any _ _).mono ?_;rintro e w' ⟨rfl,rfl⟩)
   go_ret2
   exact ⟨rfl,rfl⟩
  | false =>
   have HC:Hid (detC a b=mpCap a b∧detO a b=mpOk a b):=lh (by unfold detC detO;rw [if_pos hsa,if_pos hsa,if_neg (by rw [hsb];decide),hsb];exact ⟨rfl,rfl⟩)
   have HF:=lh (fun h=>cap_full (p:=a) (x:=b) hsa h)
   rw [HC.out.1,HC.out.2]
   cases ho:mpOk a b with
   | false =>
    rw [ho] at HA
    generalize mpCap a b=c at *
    go_enter Tryz.func101,Tryz.ntmps101
    go_wp2_with (first
     | (go_at_call 103;refine (starP_any _ _).mono ?_;rintro e w' ⟨rfl,rfl⟩)
     | (go_at_call 96;refine HA.out.mono ?_;rintro e w' ⟨rfl,rfl⟩))
    go_ret2
    exact ⟨rfl,rfl⟩
   | true =>
    have hne:=HF.out ho
    rw [ho] at HA
    generalize mpCap a b=c at *
    go_enter Tryz.func101,Tryz.ntmps101
    go_wp2_with (first
     | (go_at_call 103;refine (starP_any _ _).mono ?_;rintro e w' ⟨rfl,rfl⟩)
     | (go_at_call 96;refine HA.out.mono ?_;rintro e w' ⟨rfl,rfl⟩))
    go_ret2
    exact ⟨rfl,rfl⟩
 | false =>
  have HC:Hid (detC a b=mpCap b a∧detO a b=(stB b&&mpOk b a)):=lh (by unfold detC detO;rw [if_neg (by rw [hsa];decide),if_neg (by rw [hsa];decide)];exact ⟨rfl,rfl⟩)
  have HF:=lh (fun hs h=>cap_full (p:=b) (x:=a) hs h)
  have HN:=lh (fun hs=>cap_none (p:=b) (x:=a) hs)
  rw [HC.out.1,HC.out.2]
  clear HC
  cases ho:mpOk b a with
  | false =>
   rw [ho] at HB
   rw [Bool.and_false]
   generalize mpCap b a=c at *
   go_enter Tryz.func101,Tryz.ntmps101
   go_wp2_with (first
    | (go_at_call 103;refine (starP_any _ _).mono ?_;rintro e w' ⟨rfl,rfl⟩)
    | (go_at_call 96;refine HB.out.mono ?_;rintro e w' ⟨rfl,rfl⟩))
   go_ret2
   exact ⟨rfl,rfl⟩
  | true =>
   rw [ho] at HB
   rw [Bool.and_true]
   cases hsb:stB b with
   | false =>
    rw [HN.out hsb] at HB ⊢
    clear HF HN
    go_enter Tryz.func101,Tryz.ntmps101
    go_wp2_with (first
     | (go_at_call 103;refine (starP_any _ _).mono ?_;rintro e w' ⟨rfl,rfl⟩)
     | (go_at_call 96;refine HB.out.mono ?_;rintro e w' ⟨rfl,rfl⟩))
    go_ret2
    exact ⟨rfl,rfl⟩
   | true =>
    have hne:=HF.out hsb ho
    generalize mpCap b a=c at *
    go_enter Tryz.func101,Tryz.ntmps101
    go_wp2_with (first
     | (go_at_call 103;refine (starP_any _ _).mono ?_;rintro e w' ⟨rfl,rfl⟩)
     | (go_at_call 96;refine HB.out.mono ?_;rintro e w' ⟨rfl,rfl⟩))
    go_ret2
    exact ⟨rfl,rfl⟩
def RetPO (w:World) (xs:List ByteArray) (r:Bool) (e:Ending) (w':World):Prop :=
 ∃ g d base,e=.returned (.agg #[.slice (some ⟨g,0,none⟩) xs.length d,.bool r])∧(w.heap.size≤base∧OT w' base (.slice (some ⟨g,0,none⟩) xs.length d) xs)∧Below w.heap.size w w'
theorem OT.box {w:World} {base:Nat} {v:Value} {xs:List ByteArray} (h:OT w base v xs) {g:Nat} (hg:g<base) (a b:Value):OT ((w.setCell ⟨g,0,none⟩ a).setCell ⟨g,1,none⟩ b) base v xs :=
 (h.other (p:=⟨g,0,none⟩) hg a).other (p:=⟨g,1,none⟩) hg b
theorem pcopy_own (A:Option Addr) (c:Nat) (xs:List ByteArray) (r:Bool) (w:World) (h:RT w A c xs) (h0:0<xs.length) (hl:xs.length≤100000) :
 Calls Tryz.prog 54 #[.agg #[.slice A xs.length c,.bool r]] w (RetPO w xs r):=by
 have HI:=PV.enter h r 45
 have HCL:Hid (∀ w',At (PV w A c xs r) w'→Calls Tryz.prog 85 #[.slice A xs.length c] w' fun e w''=>∃ g d base,e=.returned (.slice (some ⟨g,0,none⟩) xs.length d)∧(w.heap.size+1<base∧OT w'' base (.slice (some ⟨g,0,none⟩) xs.length d) xs)∧Below w'.heap.size w' w''):=lh (fun w' h =>
  (clone_any A c xs w' (PV.x h) h0 hl).mono fun e w'' ⟨g,d,a1,a2,a3⟩=>⟨g,d,_,a1,⟨(PV.res h).2.2.2.2,a2⟩,a3⟩)
 have h1:=h.1
 have h2:=h.2.1
 clear h
 have HR:=lh True.intro
 go_enter Tryz.func54,Tryz.ntmps54
 go_wp2_with fail
 go_region_held3 (fun w'=>w'.cell? ⟨w.heap.size,0,none⟩=some (.slice A xs.length c)∧w'.cell? ⟨w.heap.size,1,none⟩=some (.bool r))
  (first|(refine PV.cells (HI.go ?_)<;>(repeat (first|exact Below.refl _ _|apply Below.drew|apply below_drewN|apply below_al))<;>done)|go_keep)
  ((go_at_call 85;refine (HCL.out _ (HI.go bB)).mono ?_;rintro e w3 ⟨g,d,base,rfl,⟨hbs,ho⟩,hb⟩;replace HI:=HI.go2 bB hb;have HO:=lh ho;obtain ⟨q1,q2,q3,q4,q5⟩:=PV.res HI;obtain ⟨a1,a2⟩:=PV.cells HI;clear ho hb))
 all_goals go_wp2_with fail
 all_goals
  refine bodyPost_ret (v:=.agg #[.slice (some ⟨g,0,none⟩) xs.length d,.bool r]) (by simp [results,Tryz.results54,go_sem,q1,q2,q3,q4]) rfl ⟨g,d,base,rfl,⟨by omega,HO.out.box hbs _ _⟩,below_box (PV.b HI) (by omega) _ _⟩
theorem cutStar_yes {x:ByteArray} (h:stB x=true) (w:World) :
 Calls Tryz.prog 91 #[.string x,.string ⟨#[42]⟩] w fun e w'=>e=.returned (.tuple #[.string (tlB x),.bool true])∧w=w':=by
 have e:mkB (Lib.trimPrefix x.data.toList (⟨#[42]⟩:ByteArray).data.toList)=tlB x:=by
  unfold stB at h
  unfold Lib.trimPrefix
  rw [if_pos h]
  show mkB (x.data.toList.drop 1)=tlB x
  rw [←tlB_data,mkB_back]
 have:=cutPrefix_any x ⟨#[42]⟩ w
 rw [e,show Lib.hasPrefix x.data.toList (⟨#[42]⟩:ByteArray).data.toList=true from h] at this
 exact this
theorem cutStar_no {x:ByteArray} (h:stB x=false) (w:World) :
 Calls Tryz.prog 91 #[.string x,.string ⟨#[42]⟩] w fun e w'=>∃ y:ByteArray,e=.returned (.tuple #[.string y,.bool false])∧w=w':=by
 have:=cutPrefix_any x ⟨#[42]⟩ w
 rw [show Lib.hasPrefix x.data.toList (⟨#[42]⟩:ByteArray).data.toList=false from h] at this
 exact this.mono fun e w' ⟨h1,h2⟩=>⟨_,h1,h2⟩
def PW (W:World) (q g d base:Nat) (xs:List ByteArray) (r:Bool) (w:World):Prop :=
 (PX w q (.slice (some ⟨g,0,none⟩) xs.length d) (.bool r)∧PX w (W.heap.size+1) (.slice none 0 0) (.bool false))∧(W.heap.size+2≤base∧OT w base (.slice (some ⟨g,0,none⟩) xs.length d) xs)∧(q≠g∧W.heap.size≤q∧q≠W.heap.size+1)∧Below W.heap.size W w
theorem PW.start {W:World} {A:Option Addr} {c:Nat} {xs:List ByteArray} {r:Bool} {w:World} (h:At (PV W A c xs r) w) {g d base:Nat} (hbs:W.heap.size+2≤base) (ho:OT w base (.slice (some ⟨g,0,none⟩) xs.length d) xs) (h0:0<xs.length) :
 PW W W.heap.size g d base xs r ((w.setCell ⟨W.heap.size,0,none⟩ (.slice (some ⟨g,0,none⟩) xs.length d)).setCell ⟨W.heap.size,1,none⟩ (.bool r)):=by
 obtain ⟨g',cap,e,hg,_⟩:=ho.block h0
 cases e
 exact ⟨⟨h.out.1.set_same _ _,(h.out.2.1.set_cell _ (by simp) _).set_cell _ (by simp) _⟩,⟨hbs,ho.box (by omega) _ _⟩,⟨by omega,Nat.le_refl _,by omega⟩,below_box (PV.b h) (Nat.le_refl _) _ _⟩
theorem PW.set {W:World} {q g d base:Nat} {xs:List ByteArray} {r:Bool} {w:World} (h:PW W q g d base xs r w) {i:Nat} (hi:i<xs.length) (y:ByteArray) :
 PW W q g d base (xs.set i y) r (w.setCell ⟨g,i,none⟩ (.string y)):=by
 obtain ⟨⟨h1,h2⟩,⟨h3,h4⟩,h5,h6⟩:=h
 obtain ⟨g',cap,e,hg,_⟩:=h4.block (by omega)
 cases e
 refine ⟨⟨?_,h2.set_cell _ (by simp;omega) _⟩,⟨h3,?_⟩,h5,h6.setCell (by simp;omega) _⟩
 ·rw [List.length_set]
  exact h1.set_cell _ (by simp;omega) _
 ·rw [List.length_set]
  exact h4.set hi y
theorem PW.read {W:World} {q g d base:Nat} {xs:List ByteArray} {r:Bool} {w:World} (h:PW W q g d base xs r w):RT w (some ⟨g,0,none⟩) d xs:=by
 obtain ⟨A,c,e,hr⟩:=h.2.1.2.read
 cases e
 exact hr
theorem PW.ret {W:World} {q g d base:Nat} {xs:List ByteArray} {r:Bool} {w:World} (h:PW W q g d base xs r w) (a b:Value) :
 RT ((w.setCell ⟨W.heap.size+1,0,none⟩ a).setCell ⟨W.heap.size+1,1,none⟩ b) (some ⟨g,0,none⟩) d xs∧Below W.heap.size W ((w.setCell ⟨W.heap.size+1,0,none⟩ a).setCell ⟨W.heap.size+1,1,none⟩ b) :=
 ⟨h.read.box h.1.2 (slice_ns _ _ _) (bool_ns _) _ _,below_box h.2.2.2 (by omega) _ _⟩
theorem fix_at_lit {c x:ByteArray} {k m i:Nat} {xs:List ByteArray} (h:fixB c k xs=xs.take i++fixB c m (xs.drop i)) (hx:xs[i]? = some x) (hs:stB x=false):fixB c k xs=xs.take (i+1)++fixB c m (xs.drop (i+1)):=by
 obtain ⟨hl,he⟩:=sI.1 hx
 rw [h,List.drop_eq_getElem_cons hl,he,fix_lit hs,List.take_add_one,hx]
 simp
theorem fix_at_star {c x:ByteArray} {k m i:Nat} {xs:List ByteArray} (h:fixB c k xs=xs.take i++fixB c (m+1) (xs.drop i)) (hx:xs[i]? = some x) (hs:stB x=true):fixB c k xs=xs.take (i+1)++fixB c m (xs.drop (i+1)):=by
 obtain ⟨hl,he⟩:=sI.1 hx
 rw [h,List.drop_eq_getElem_cons hl,he,fix_succ hs,List.take_add_one,hx]
 simp
theorem fix_at_hit {c x:ByteArray} {k i:Nat} {xs:List ByteArray} (h:fixB c k xs=xs.take i++fixB c 0 (xs.drop i)) (hx:xs[i]? = some x) (hs:stB x=true):xs.set i (c++tlB x)=fixB c k xs:=by
 obtain ⟨hl,he⟩:=sI.1 hx
 rw [h,List.drop_eq_getElem_cons hl,he,fix_zero hs,List.set_eq_take_append_cons_drop,if_pos hl]
theorem fix_at_end {c:ByteArray} {k m i:Nat} {xs:List ByteArray} (h:fixB c k xs=xs.take i++fixB c m (xs.drop i)) (hi:xs.length≤i):xs=fixB c k xs:=by
 rw [h,List.take_of_length_le hi,List.drop_eq_nil_of_le hi,fix_nil,List.append_nil]
theorem fix_any (A:Option Addr) (c:Nat) (xs:List ByteArray) (r:Bool) (k:Nat) (cap:ByteArray) (w:World) (h:RT w A c xs) (h0:0<xs.length) (hl:xs.length≤100000) (hk:k≤100000) (hsz:∀ x∈xs,x.size≤5000) (hcz:cap.size≤5000) :
 Calls Tryz.prog 102 #[.agg #[.slice A xs.length c,.bool r],.int .i64 k,.string cap] w (RetP1 w (fixB cap k xs) r):=by
 have HI:=PV.enter h r 45
 have HCP:=lh (fun w h=>pcopy_own A c xs r w h h0 hl)
 have HSZ:=lh hsz
 have h1:=h.1
 have h2:=h.2.1
 clear h hsz
 go_enter Tryz.func102,Tryz.ntmps102
 go_wp2_with (go_at_call 54;refine (HCP.out _ (PV.x (HI.go bB))).mono ?_;rintro e w3 ⟨g,d,base,rfl,⟨hbs,ho⟩,hb⟩;(try simp at hbs);replace HI:=HI.go2 bB hb;have HPW:=lh (PW.start HI (by omega) ho h0);have hd1:=ho.block h0;obtain ⟨⟨p1,p2,p3,p4,p5⟩,⟨q1,q2,q3,q4,q5⟩,-⟩:=HI.out;clear hb ho;obtain ⟨g',d',hd2,-,-,hd3,hd4⟩:=hd1;obtain ⟨-,-,hd5⟩:=Value.slice.inj hd2;subst hd5;clear hd2)
 go_loopw [1,16] (fun n i wr=>∃ k' m:Nat,k'≤xs.length∧m≤100000∧i=.int .i64 k'∧n=.int .i64 m∧Hid (fixB cap k xs=xs.take k'++fixB cap m (xs.drop k'))∧Hid (PW w w.heap.size g d base xs r wr)) (fun _ i _=>xs.length-(intOf i).toNat)
 case atStart=>exact ⟨0,k,Nat.zero_le _,hk,rfl,rfl,lh rfl,HPW⟩
 case round =>
  obtain ⟨i,m,hi,hm,rfl,rfl,HS,HP⟩:=hrel
  obtain ⟨⟨p1,p2,p3,p4,p5⟩,⟨q1,q2,q3,q4,q5⟩⟩:=HP.out.1
  by_cases hlt:i<xs.length
  ·obtain ⟨x,hx⟩:∃ x,xs[i]? = some x:=⟨_,gE hlt⟩
   obtain ⟨hcx,hfx,hg1,hg2,-,hcap,hcap2⟩:=HP.out.2.1.2.cell hx
   have hxz:=HSZ.out x (mG hx)
   have htz:=tlB_size x
   have hqg:w.heap.size≠g:=HP.out.2.2.1.1
   have hqh:g≠w.heap.size:=hqg.symm
   have HX:=lh hx
   clear hx
   cases hs:stB x with
   | false =>
    have HST:=lh hs
    have HN:=lh (fix_at_lit HS.out HX.out hs)
    have HCU:=lh (fun W=>cutStar_no hs W)
    clear hs
    go_wp2_with (go_at_call 91;refine (HCU.out _).mono ?_;rintro e w5 ⟨y,rfl,rfl⟩)
    go_roundw
    case rel=>exact ⟨i+1,m,by omega,hm,by go_num,rfl,HN,HP⟩
    case measure=>simp [intOf];omega
   | true =>
    have HST:=lh hs
    have HCU:=lh (fun W=>cutStar_yes hs W)
    cases m with
    | zero =>
     have HN:=lh (fix_at_hit HS.out HX.out hs)
     clear hs
     go_wp2_with (go_at_call 91;refine (HCU.out _).mono ?_;rintro e w5 ⟨rfl,rfl⟩)
     have HP2:=lh (HP.out.set hlt (cap++tlB x))
     obtain ⟨⟨p1',p2',p3',p4',p5'⟩,⟨q1',q2',q3',q4',q5'⟩⟩:=HP2.out.1
     go_wp2_with fail
     refine bodyPost_ret (v:=.agg #[.slice (some ⟨g,0,none⟩) xs.length d,.bool r]) (by simp [results,Tryz.results102,go_sem,q1',q2',q3',q4',q1,q2,q3,q4]) rfl ⟨some ⟨g,0,none⟩,d,by rw [fix_len],?_,?_⟩
     ·rw [←HN.out]
      exact (HP2.out.ret _ _).1
     ·exact (HP2.out.ret _ _).2
    | succ m =>
     have HN:=lh (fix_at_star HS.out HX.out hs)
     have hmm:(((m+1:Nat):Int)==0)=false:=by rw [beq_eq_false_iff_ne];omega
     clear hs
     go_wp2_with (go_at_call 91;refine (HCU.out _).mono ?_;rintro e w5 ⟨rfl,rfl⟩)
     go_roundw
     case rel=>exact ⟨i+1,m,by omega,by omega,by go_num,by go_num,HN,HP⟩
     case measure=>simp [intOf];omega
  ·have HN:=lh (fix_at_end HS.out (by omega))
   go_wp2_with fail
   refine bodyPost_ret (v:=.agg #[.slice (some ⟨g,0,none⟩) xs.length d,.bool r]) (by simp [results,Tryz.results102,go_sem,q1,q2,q3,q4]) rfl ⟨some ⟨g,0,none⟩,d,by rw [fix_len],?_,?_⟩
   ·rw [←HN.out]
    exact (HP.out.ret _ _).1
   ·exact (HP.out.ret _ _).2
open Go.RowKit
open Pm
def AG (xs:List ByteArray) (r:Bool) (ys:List ByteArray) (t:Bool) (zs:List ByteArray) (u:Bool) (vs:List ByteArray) (v:Bool) (q:Bool) (l f s:List ByteArray):Prop :=
 (withinOk insB l xs q r=true∧withinOk insB l zs q u=true)∧(carE xs r l q ys t=0∧carE zs u l q vs v=0)∧(carL xs r l q ys t=f∧carL zs u l q vs v=s)∧(carR xs r l q ys t=q∧carR zs u l q vs v=q)
theorem AG.parts {xs ys zs vs l f s:List ByteArray} {r t u v q:Bool} (h:AG xs r ys t zs u vs v q l f s):checkP l q=0∧checkP f q=0∧checkP s q=0:=by
 obtain ⟨⟨w1,w2⟩,⟨c1,c2⟩,⟨f1,s1⟩,r1,r2⟩:=h
 have h1:=(car_sb c1).2
 have h2:=(car_sb c2).2
 rw [f1,r1] at h1
 rw [s1,r2] at h2
 refine ⟨?_,h1,h2⟩
 unfold withinOk at w1
 rw [Bool.and_eq_true,beq_iff_eq] at w1
 exact w1.1
theorem AG.es {xs ys zs vs l f s:List ByteArray} {r t u v q:Bool} (h:AG xs r ys t zs u vs v q l f s) (hl:f.length=s.length):ES l f s:=by
 obtain ⟨p1,p2,p3⟩:=h.parts
 obtain ⟨⟨w1,w2⟩,⟨c1,c2⟩,⟨f1,s1⟩,r1,r2⟩:=h
 have a1:=(bnd_sb w1).count
 have a2:=(car_sb c1).1.count
 have b1:=(bnd_sb w2).count
 have b2:=(car_sb c2).1.count
 rw [f1] at a2
 rw [s1] at b2
 exact ⟨⟨parts_all (check_zero p1).2.2,parts_all (check_zero p2).2.2,parts_all (check_zero p3).2.2⟩,by omega,by omega,hl⟩
theorem eqz_check {q:Bool}:∀ (n:Nat) (l f s:List ByteArray),ES l f s→(∀ (c:ByteArray) (k:Nat) (l:List ByteArray),comp c.data.toList=true→checkP l q=0→checkP (fixB c k l) q=0)→checkP l q=0→(eqz n l f s).2=true→checkP (eqz n l f s).1 q=0
 | 0,l,f,s,_,_,_,h=>by cases h
 | n+1,l,f,s,hE,hf,hc,h=>by
  cases hs:stp f s with
  | none=>rw [eqz_end hs];exact hc
  | some p =>
   obtain ⟨k,x,y⟩:=p
   cases hd:detO x y with
   | false=>rw [eqz_bad hs hd] at h;cases h
   | true =>
    obtain ⟨hcc,hk,_⟩:=hE.lt hs hd
    rw [eqz_step hs hd] at h ⊢
    exact eqz_check n _ _ _ (hE.fix hcc hk).1 hf (hf _ _ _ hcc hc) h
theorem check_of_parts {xs:List ByteArray} {r:Bool} (h1:0<xs.length) (h2:xs.length=1→r=true) (h3:xs.length≤12) (h4:partsOk xs=true):checkP xs r=0:=by
 unfold checkP
 rw [if_neg,if_neg (by rw [h4];decide),if_neg (by omega)]
 rintro (e|⟨e1,e2⟩)
 ·omega
 ·rw [h2 e1] at e2;cases e2
theorem fix_checkP {q:Bool} (c:ByteArray) (k:Nat) (l:List ByteArray) (hc:comp c.data.toList=true) (h:checkP l q=0):checkP (fixB c k l) q=0:=by
 obtain ⟨h1,h2,h3⟩:=check_zero h
 refine check_of_parts (by rw [fix_len];exact h1) (fun e=>?_) (by rw [fix_len];exact h2) ?_
 ·rw [fix_len] at e
  cases q with
  | true=>rfl
  | false =>
   unfold checkP at h
   rw [if_pos (.inr ⟨e,rfl⟩)] at h
   cases h
 ·have hp:=fix_part hc k l (parts_all h3)
  cases l with
  | nil=>simp at h1
  | cons x xs =>
   unfold partsOk at h3
   rw [Bool.and_eq_true] at h3
   have e:=fix_lit (c:=c) (k:=k) (xs:=xs) (comp_42 h3.1)
   rw [e] at hp ⊢
   show (comp x.data.toList&&(fixB c k xs).all partB)=true
   rw [h3.1,List.all_eq_true.2 (fun z hz=>hp z (by simp [hz]))]
   rfl
def agG (xs:List ByteArray) (r:Bool) (ys:List ByteArray) (t:Bool) (zs:List ByteArray) (u:Bool) (vs:List ByteArray) (v:Bool):Bool :=
 (chkE xs r ys t zs u vs v==0)&&(meetOk xs zs r u&&((carE xs r (meetL xs zs) (r&&u) ys t==0)&&(carE zs u (meetL xs zs) (r&&u) vs v==0)))
def agE (xs:List ByteArray) (r:Bool) (ys:List ByteArray) (t:Bool) (zs:List ByteArray) (u:Bool) (vs:List ByteArray) (v:Bool):Int :=
 if chkE xs r ys t zs u vs v≠0 then chkE xs r ys t zs u vs v else if meetOk xs zs r u=false then 0 else if carE xs r (meetL xs zs) (r&&u) ys t≠0 then 43 else carE zs u (meetL xs zs) (r&&u) vs v
def eqT (l f s:List ByteArray):List ByteArray×Bool:=if f.length=s.length then eqz (countB stB f+1) l f s else ([],false)
def agZ (xs:List ByteArray) (r:Bool) (ys:List ByteArray) (t:Bool) (zs:List ByteArray) (u:Bool) (vs:List ByteArray) (v:Bool):List ByteArray×Bool :=
 if agG xs r ys t zs u vs v=true then eqT (meetL xs zs) (carL xs r (meetL xs zs) (r&&u) ys t) (carL zs u (meetL xs zs) (r&&u) vs v) else ([],false)
theorem ag_parts {xs ys zs vs:List ByteArray} {r t u v:Bool}:agG xs r ys t zs u vs v=true↔chkE xs r ys t zs u vs v=0∧meetOk xs zs r u=true∧carE xs r (meetL xs zs) (r&&u) ys t=0∧carE zs u (meetL xs zs) (r&&u) vs v=0:=by
 unfold agG
 rw [Bool.and_eq_true,Bool.and_eq_true,Bool.and_eq_true,beq_iff_eq,beq_iff_eq,beq_iff_eq]
theorem ag_start {xs ys zs vs:List ByteArray} {r t u v:Bool} (h:agG xs r ys t zs u vs v=true) :
 AG xs r ys t zs u vs v (r&&u) (meetL xs zs) (carL xs r (meetL xs zs) (r&&u) ys t) (carL zs u (meetL xs zs) (r&&u) vs v):=by
 obtain ⟨h1,h2,h3,h4⟩:=ag_parts.1 h
 obtain ⟨k1,k2⟩:=chk_zero.1 h1
 obtain ⟨w1,w2⟩:=meet_within h2
 have e1:=(ruleE_zero.1 k1).2.2.2
 have e2:=(ruleE_zero.1 k2).2.2.2
 have a1:=(car_sb h3).1
 have a2:=(car_sb h4).1
 rw [←e1] at a1
 rw [←e2] at a2
 have b1:=(bnd_sb w1).rest a1
 have b2:=(bnd_sb w2).rest a2
 rw [e1] at b1
 rw [e2] at b2
 refine ⟨⟨w1,w2⟩,⟨h3,h4⟩,⟨rfl,rfl⟩,?_,?_⟩
 ·rw [←e1] at b1 ⊢;exact b1.symm
 ·rw [←e2] at b2 ⊢;exact b2.symm
theorem car_fwd {xs ys ms cs L m:List ByteArray} {r t q:Bool} (h0:ruleE xs r ys t=0) (w:withinOk insB ms xs q r=true) (c:carE xs r ms q ys t=0) (h:Fil ms q cs L) (k:Fil (carL xs r ms q ys t) (carR xs r ms q ys t) cs m) :
 fwdO xs r ys t (joinB L)=true∧fwdT xs r ys t (joinB L)=joinB m:=by
 have hr:=ruleE_zero.1 h0
 obtain ⟨ds,h6,h7⟩:=((bnd_sb w).fil (parts_all (check_zero hr.1).2.2) cs L).1 h
 obtain ⟨ds',h8,h9⟩:=((car_sb c).1.fil (parts_all (check_zero hr.2.1).2.2) cs m).1 k
 rw [SFil.fn h8 h6] at h9
 exact fwd_mk h0 h7 h9
theorem ag_means {xs ys zs vs:List ByteArray} {r t u v:Bool} {p:ByteArray} (he:agE xs r ys t zs u vs v=0) :
 (fwdO xs r ys t p&&(fwdO zs u vs v p&&decide (fwdT xs r ys t p=fwdT zs u vs v p)))=((agZ xs r ys t zs u vs v).2&&matchOk mpOk (agZ xs r ys t zs u vs v).1 (r&&u) p):=by
 have hk:chkE xs r ys t zs u vs v=0:=by
  unfold agE at he
  by_cases h:chkE xs r ys t zs u vs v=0
  ·exact h
  ·rw [if_pos h] at he;exact absurd he h
 obtain ⟨k1,k2⟩:=chk_zero.1 hk
 have mm:=meet_means xs zs r u p
 cases hm:meetOk xs zs r u with
 | false =>
  have hg:agG xs r ys t zs u vs v=false:=by unfold agG;rw [hm];simp
  have e:agZ xs r ys t zs u vs v=([],false):=by unfold agZ;rw [if_neg (by rw [hg];decide)]
  have:=mm.2 hm
  rw [e,fwd_match k1,fwd_match k2,← Bool.and_assoc,this]
  rfl
 | true =>
  have hcs:carE xs r (meetL xs zs) (r&&u) ys t=0∧carE zs u (meetL xs zs) (r&&u) vs v=0:=by
   unfold agE at he
   rw [if_neg (by simp [hk]),if_neg (by simp [hm])] at he
   by_cases h:carE xs r (meetL xs zs) (r&&u) ys t=0
   ·rw [if_neg (by simp [h])] at he;exact ⟨h,he⟩
   ·rw [if_pos h] at he;cases he
  have hg:=ag_parts.2 ⟨hk,hm,hcs.1,hcs.2⟩
  have hA:=ag_start hg
  have hP:=hA.parts
  have e:agZ xs r ys t zs u vs v=eqT (meetL xs zs) (carL xs r (meetL xs zs) (r&&u) ys t) (carL zs u (meetL xs zs) (r&&u) vs v):=by unfold agZ;rw [if_pos hg]
  rw [e]
  obtain ⟨⟨w1,w2⟩,⟨c1,c2⟩,_,r1,r2⟩:=hA
  rw [Bool.eq_iff_iff,Bool.and_eq_true,Bool.and_eq_true,Bool.and_eq_true,decide_eq_true_eq]
  constructor
  ·rintro ⟨h1,h2,h3⟩
   have hmm:matchOk mpOk (meetL xs zs) (r&&u) p=true:=by
    rw [(mm.1 hm).2,← fwd_match k1,← fwd_match k2,h1,h2]
    rfl
   obtain ⟨_,hf,hj⟩:=match_fil hmm
   obtain ⟨m1,hm1⟩:=hf.kinds (ys:=carL xs r (meetL xs zs) (r&&u) ys t) (by rw [(bnd_sb w1).count,(car_sb c1).1.count])
   obtain ⟨m2,hm2⟩:=hf.kinds (ys:=carL zs u (meetL xs zs) (r&&u) vs v) (by rw [(bnd_sb w2).count,(car_sb c2).1.count])
   have f1:=car_fwd k1 w1 c1 hf (by rw [r1];exact hm1)
   have f2:=car_fwd k2 w2 c2 hf (by rw [r2];exact hm2)
   rw [hj] at f1 f2
   rw [f1.2,f2.2] at h3
   have e1:=(fil_fill hP.2.1 hm1).2.2.2.2
   have e2:=(fil_fill hP.2.2 hm2).2.2.2.2
   rw [h3,e2] at e1
   subst e1
   have hlen:=fil_eqlen hm1 hm2
   have hE:ES (meetL xs zs) (carL xs r (meetL xs zs) (r&&u) ys t) (carL zs u (meetL xs zs) (r&&u) vs v):=AG.es (ag_start hg) hlen
   unfold eqT
   rw [if_pos hlen]
   obtain ⟨z1,cs,z2⟩:=(eqz_means (r:=(r&&u)) (L:=compsB p) _ _ _ _ (Nat.lt_succ_self _) hE).2 ⟨_,_,hf,hm1,hm2⟩
   refine ⟨z1,?_⟩
   have:=fil_match (eqz_check _ _ _ _ hE fix_checkP hP.1 z1) z2
   rw [hj] at this
   exact this
  ·rintro ⟨h1,h2⟩
   by_cases hlen:(carL xs r (meetL xs zs) (r&&u) ys t).length=(carL zs u (meetL xs zs) (r&&u) vs v).length
   ·unfold eqT at h1 h2
    rw [if_pos hlen] at h1 h2
    have hE:ES (meetL xs zs) (carL xs r (meetL xs zs) (r&&u) ys t) (carL zs u (meetL xs zs) (r&&u) vs v):=AG.es (ag_start hg) hlen
    obtain ⟨_,hf,hj⟩:=match_fil h2
    obtain ⟨cs,m,g1,g2,g3⟩:=(eqz_means (r:=(r&&u)) (L:=compsB p) _ _ _ _ (Nat.lt_succ_self _) hE).1 ⟨h1,_,hf⟩
    have f1:=car_fwd k1 w1 c1 g1 (by rw [r1];exact g2)
    have f2:=car_fwd k2 w2 c2 g1 (by rw [r2];exact g3)
    rw [hj] at f1 f2
    exact ⟨f1.1,f2.1,by rw [f1.2,f2.2]⟩
   ·unfold eqT at h1
    rw [if_neg hlen] at h1
    cases h1
open Go.RowKit
open Pm
def set6 (w:World) (g:Nat) (a0 a1 b0 b1 c0 c1:Value):World :=
 (((((w.setCell ⟨g,0,none⟩ a0).setCell ⟨g,1,none⟩ a1).setCell ⟨g+1,0,none⟩ b0).setCell ⟨g+1,1,none⟩ b1).setCell ⟨g+2,0,none⟩ c0).setCell ⟨g+2,1,none⟩ c1
theorem RT.set6 {w:World} {A:Option Addr} {n g:Nat} {xs:List ByteArray} {u0 u1 v0 v1 x0 x1:Value} (h:RT w A n xs) (hp:PX w g u0 u1) (hq:PX w (g+1) v0 v1) (hr:PX w (g+2) x0 x1)
 (h0:∀ x,u0≠.string x) (h1:∀ x,u1≠.string x) (h2:∀ x,v0≠.string x) (h3:∀ x,v1≠.string x) (h4:∀ x,x0≠.string x) (h5:∀ x,x1≠.string x) (a0 a1 b0 b1 c0 c1:Value):RT (set6 w g a0 a1 b0 b1 c0 c1) A n xs :=
 ((h.box hp h0 h1 a0 a1).box ((hq.set_cell _ (by simp) _).set_cell _ (by simp) _) h2 h3 b0 b1).box ((((hr.set_cell _ (by simp) _).set_cell _ (by simp) _).set_cell _ (by simp) _).set_cell _ (by simp) _) h4 h5 c0 c1
theorem ML.set6 {w:World} (h:ML w) {g:Nat} {u0 u1 v0 v1 x0 x1:Value} (hp:PX w g u0 u1) (hq:PX w (g+1) v0 v1) (hr:PX w (g+2) x0 x1)
 (h0:∀ k a,u0≠.int k a) (h1:∀ k a,u1≠.int k a) (h2:∀ k a,v0≠.int k a) (h3:∀ k a,v1≠.int k a) (h4:∀ k a,x0≠.int k a) (h5:∀ k a,x1≠.int k a) (a0 a1 b0 b1 c0 c1:Value):ML (set6 w g a0 a1 b0 b1 c0 c1):=by
 obtain ⟨m,hm⟩:=h
 refine ⟨m,?_⟩
 have far:∀ (W:World) (p:Addr) (v u:Value),W.cell? p=some v→(∀ k a,v≠.int k a)→W.cell? ⟨0,0,none⟩=some (.int .i64 m)→(W.setCell p u).cell? ⟨0,0,none⟩=some (.int .i64 m):=fun W p v u e hne hc=>by
  rw [World.cell?_setCell_other]
  ·exact hc
  ·intro ee
   rw [←ee] at hc
   rw [e] at hc
   exact hne _ _ (Option.some.inj hc)
 have q1:=(hq.set_cell ⟨g,0,none⟩ (by simp) a0).set_cell ⟨g,1,none⟩ (by simp) a1
 have r1:=(((hr.set_cell ⟨g,0,none⟩ (by simp) a0).set_cell ⟨g,1,none⟩ (by simp) a1).set_cell ⟨g+1,0,none⟩ (by simp) b0).set_cell ⟨g+1,1,none⟩ (by simp) b1
 unfold Proofs.YtelkmeiepliecaaGreatDoor.set6
 refine far _ _ _ _ ((r1.set_fst c0).2.1) h5 (far _ _ _ _ r1.1 h4 (far _ _ _ _ ((q1.set_fst b0).2.1) h3 (far _ _ _ _ q1.1 h2 (far _ _ _ _ ((hp.set_fst a0).2.1) h1 (far _ _ _ _ hp.1 h0 hm)))))
theorem below_set6 {B g:Nat} {w w':World} (h:Below B w w') (hg:B≤g) (a0 a1 b0 b1 c0 c1:Value):Below B w (set6 w' g a0 a1 b0 b1 c0 c1) :=
 below_box (below_box (below_box h hg _ _) (by omega) _ _) (by omega) _ _
theorem slice_ni (A:Option Addr) (n c:Nat):∀ k a,Value.slice A n c≠.int k a:=fun k a h=>by cases h
theorem bool_ni (r:Bool):∀ k a,Value.bool r≠.int k a:=fun k a h=>by cases h
theorem PC3.set {W:World} {A:Option Addr} {c:Nat} {xs:List ByteArray} {r:Bool} {B:Option Addr} {d:Nat} {zs:List ByteArray} {u:Bool} {C:Option Addr} {e:Nat} {ys:List ByteArray} {t:Bool} {w:World} (h:At (PC3 W A c xs r B d zs u C e ys t) w)
 {A':Option Addr} {c':Nat} {xs':List ByteArray} {B':Option Addr} {d':Nat} {zs':List ByteArray} {C':Option Addr} {e':Nat} {ys':List ByteArray} (hx:RT w A' c' xs') (hz:RT w B' d' zs') (hy:RT w C' e' ys') :
 At (PC3 W A' c' xs' r B' d' zs' u C' e' ys' t) (set6 w W.heap.size (.slice A' xs'.length c') (.bool r) (.slice B' zs'.length d') (.bool u) (.slice C' ys'.length e') (.bool t)):=by
 obtain ⟨p,q,s,f⟩:=PC3.cells h
 have hm:=h.out.2.2.1
 have hb:=h.out.2.2.2
 refine ⟨PC3.kept _ _ _ _ _ _ _ _ _ _ _ _ _,⟨?_,?_,?_,?_⟩,⟨?_,?_,?_⟩,?_,?_⟩
 ·exact ((((p.set_same _ _).set_cell _ (by simp) _).set_cell _ (by simp) _).set_cell _ (by simp) _).set_cell _ (by simp) _
 ·exact ((((q.set_cell _ (by simp) _).set_cell _ (by simp) _).set_same _ _).set_cell _ (by simp) _).set_cell _ (by simp) _
 ·exact ((((s.set_cell _ (by simp) _).set_cell _ (by simp) _).set_cell _ (by simp) _).set_cell _ (by simp) _).set_same _ _
 ·exact (((((f.set_cell _ (by simp) _).set_cell _ (by simp) _).set_cell _ (by simp) _).set_cell _ (by simp) _).set_cell _ (by simp) _).set_cell _ (by simp) _
 ·exact hx.set6 p q s (slice_ns _ _ _) (bool_ns _) (slice_ns _ _ _) (bool_ns _) (slice_ns _ _ _) (bool_ns _) _ _ _ _ _ _
 ·exact hz.set6 p q s (slice_ns _ _ _) (bool_ns _) (slice_ns _ _ _) (bool_ns _) (slice_ns _ _ _) (bool_ns _) _ _ _ _ _ _
 ·exact hy.set6 p q s (slice_ns _ _ _) (bool_ns _) (slice_ns _ _ _) (bool_ns _) (slice_ns _ _ _) (bool_ns _) _ _ _ _ _ _
 ·exact hm.set6 p q s (slice_ni _ _ _) (bool_ni _) (slice_ni _ _ _) (bool_ni _) (slice_ni _ _ _) (bool_ni _) _ _ _ _ _ _
 ·exact below_set6 hb (Nat.le_refl _) _ _ _ _ _ _
theorem PC3.rl {W:World} {A:Option Addr} {c:Nat} {xs:List ByteArray} {r:Bool} {B:Option Addr} {d:Nat} {zs:List ByteArray} {u:Bool} {C:Option Addr} {e:Nat} {ys:List ByteArray} {t:Bool} {w:World} (h:At (PC3 W A c xs r B d zs u C e ys t) w):RT w A c xs:=h.out.2.1.1
theorem PC3.rf {W:World} {A:Option Addr} {c:Nat} {xs:List ByteArray} {r:Bool} {B:Option Addr} {d:Nat} {zs:List ByteArray} {u:Bool} {C:Option Addr} {e:Nat} {ys:List ByteArray} {t:Bool} {w:World} (h:At (PC3 W A c xs r B d zs u C e ys t) w):RT w B d zs:=h.out.2.1.2.1
theorem PC3.rs {W:World} {A:Option Addr} {c:Nat} {xs:List ByteArray} {r:Bool} {B:Option Addr} {d:Nat} {zs:List ByteArray} {u:Bool} {C:Option Addr} {e:Nat} {ys:List ByteArray} {t:Bool} {w:World} (h:At (PC3 W A c xs r B d zs u C e ys t) w):RT w C e ys:=h.out.2.1.2.2
theorem take_cnt {xs:List ByteArray} {k:Nat} {x:ByteArray} (h:xs[k]? = some x):countB stB (xs.take (k+1))=countB stB (xs.take k)+if stB x=true then 1 else 0:=by
 rw [List.take_add_one,h,count_app,Option.toList_some,count_one]
theorem txt_ne {x y:ByteArray} (h:x≠y):(x.toList==y.toList)=false:=by
 rw [beq_eq_false_iff_ne,Lib.toList_data,Lib.toList_data]
 intro e
 refine h ?_
 rw [←mkB_back x,← mkB_back y,e]
end Go.Proofs.YtelkmeiepliecaaGreatDoor
