/-
  Part 35 of the proof.
-/
import Derived.Test.YtelkmeiepliecaaGreatDoorU34
set_option linter.unusedSimpArgs false
set_option linter.unusedVariables false
set_option maxHeartbeats 16000000
namespace Go.Proofs.YtelkmeiepliecaaGreatDoor
open Pm
open Go.RowKit Go.WideShapes
theorem nz_at {n i:Nat} {f:Nat→Int} (hi:i<n) (h0:∀ j,j<i→f j=0) (h:f i≠0):(((List.range n).map f).find? (· != 0)).getD 0=f i:=by
 have:((List.range n).map f).find? (· != 0)=some (f i):=by
  rw [List.find?_eq_some_iff_getElem]
  refine ⟨by simpa using h,i,by simpa using hi,by simp,fun j hj=>?_⟩
  simpa using h0 j hj
 rw [this]
 rfl
theorem nz_no {n:Nat} {f:Nat→Int} (h:∀ j,j<n→f j=0):(((List.range n).map f).find? (· != 0)).getD 0=0:=by
 have:((List.range n).map f).find? (· != 0)=none:=by
  rw [List.find?_eq_none]
  intro x hx
  obtain ⟨j,hj,rfl⟩:=List.mem_map.1 hx
  rw [h j (List.mem_range.1 hj)]
  decide
 rw [this]
 rfl
def NoE (l:List St) (k:Nat):Prop:=∀ j,j<k→∀ x,x<l.length→stepE l j x=0
theorem chkS_at {l:List St} {k i:Nat} (hl:l.length≤16) (hk:k<5) (h1:NoE l k) (hi:i<l.length) (h2:∀ x,x<i→stepE l k x=0) (h:stepE l k i≠0):chkS l=stepE l k i:=by
 unfold chkS
 rw [if_neg (by omega)]
 have hr:rowE l k=stepE l k i:=nz_at hi h2 h
 rw [←hr]
 exact nz_at hk (fun j hj=>nz_no (h1 j hj)) (by rw [hr];exact h)
theorem chkS_no {l:List St} (hl:l.length≤16) (h:NoE l 5):chkS l=0:=by
 unfold chkS
 rw [if_neg (by omega)]
 exact nz_no fun j hj=>nz_no (h j hj)
theorem NoE.lines {l:List St} {k:Nat} (h:NoE l k) (hk:0<k):∀ s∈l,∀ p∈s.2.2,lineOk p=true:=fun s hs p hp=>by
 obtain ⟨i,hi⟩:=List.mem_iff_getElem?.1 hs
 have:=h 0 hk i (sI.1 hi).1
 unfold stepE itsE at this
 rw [hi] at this
 simp only at this
 split at this
 ·cases this
 ·split at this
  ·cases this
  ·split at this
   ·cases this
   ·rename_i h5
    rw [Bool.not_eq_true,List.any_eq_false] at h5
    simpa using h5 p hp
theorem run_store_func (P:Program) (w:World) (a:Addr) (m:Mode) (f:Fn) (xs ys:Array Value):(store a (.func f xs ys) m).run P w=stored P w a (.func f xs ys) m:=run_store P w a _ m rfl
attribute [local go_sem] run_store_func
def stepsV:List Value:=[.func (.func 115) #[] #[],.func (.func 116) #[] #[],.func (.func 117) #[] #[],.func (.func 118) #[] #[],.func (.func 119) #[] #[]]
theorem steps_any (w:World) :
 Calls Tryz.prog 81 #[] w fun e w'=>e=.returned (.slice (some ⟨w.heap.size,0,none⟩) 5 5)∧BX w' w.heap.size stepsV∧Below w.heap.size w w':=by
 go_enter Tryz.func81,Tryz.ntmps81
 go_wp2_with fail
 go_ret
 exact ⟨rfl,BX.new w stepsV _ rfl,bB⟩
def RetCk (w:World) (n:Int) (e:Ending) (w':World):Prop:=∃ i:Int,e=.returned (.tuple #[.int .i64 i,.int .i64 n])∧Below w.heap.size w w'
theorem RetCk.of {w w':World} {n k i:Int} {e:Ending} (h:n=k) (he:e=.returned (.tuple #[.int .i64 i,.int .i64 k])) (hb:Below w.heap.size w w'):RetCk w n e w':=⟨i,by rw [h];exact he,hb⟩
set_option maxRecDepth 100000 in
theorem checkS_any (A:Option Addr) (c:Nat) (l:List St) (w:World) (h:STR w A c l) (hl:l.length≤100) (hz:SzS l) (hm:ML w) :
 Calls Tryz.prog 49 #[.slice A l.length c] w (RetCk w (chkS l)):=by
 have q1:=h.1
 have q2:=h.2.1
 by_cases h16:16<l.length
 ·have HE:Hid (chkS l=80):=lh (if_pos h16)
  have hi1:decide ((16:Int)<(l.length:Int))=true:=by simp;omega
  go_enter Tryz.func49,Tryz.ntmps49
  go_wp2_with fail
  go_ret2
  exact RetCk.of HE.out rfl bB
 ·have hi1:decide ((16:Int)<(l.length:Int))=false:=by simp;omega
  have HNF:=lh (newForest_any A c l w h hl hz.nm)
  have HZ:=lh hz
  have HM:=lh hm
  clear h hz hm
  go_enter Tryz.func49,Tryz.ntmps49
  go_wp2_with (first
   | (go_at_call 50;refine HNF.out.mono ?_;rintro e w1 ⟨rfl,hfo,hb1⟩;have HFO:=lh hfo;have HB1:=lh hb1;clear hfo hb1)
   | (go_at_call 81;refine (steps_any _).mono ?_;rintro e w2 ⟨rfl,hbx,hb2⟩;have HBX:=lh hbx;have HB2:=lh (go3 HB1.out hb2);have HF2:=lh (HFO.out.below hb2);clear hbx hb2))
  go_loopw [16] (fun s wr=>∃ k:Nat,k≤5∧s=.int .i64 k∧Hid (Below w2.heap.size w2 wr)∧Hid (NoE l k)) (fun s _=>5-(intOf s).toNat)
  case atStart=>exact ⟨0,by omega,rfl,lh (Below.refl _ _),lh (fun j hj=>by omega)⟩
  case round =>
   obtain ⟨k,hk,rfl,HB,HNO⟩:=hrel
   have hs1:w1.heap.size<wr.heap.size:=(HBX.out.below HB.out).2.2
   by_cases hk5:k<5
   ·rcases (show k=0∨k=1∨k=2∨k=3∨k=4 by omega) with hkk|hkk|hkk|hkk|hkk
    ·
     have H0:Hid (k=0):=lh hkk
     clear hkk
     have hk5b:decide ((k:Int)<5)=true:=by simp;omega
     have HNL:Hid (0<0→∀ s∈l,∀ p∈s.2.2,lineOk p=true):=lh (fun h=>HNO.out.lines (by rw [H0.out];exact h))
     have x0:wr.cell? ⟨w1.heap.size,k,none⟩=some (.func (.func 115) #[] #[]):=by rw [H0.out];exact (HBX.out.below HB.out).1 0 _ rfl
     have HST:=lh (fun (i:Nat) (hi:i<l.length) W (hW:Below w2.heap.size w2 W)=>(show Calls Tryz.prog 115 #[.pointer (some ⟨w.heap.size+1,0,none⟩),.int .i64 i] W (RetE W (stepE l k i)) from by rw [H0.out];exact itself_any _ _ A c l i W (HF2.out.below hW) hi hl HZ.out (HM.out.below (go3 HB2.out hW))))
     go_wp2_with fail
     obtain ⟨wt,rfl⟩:∃ wt,wt=wr:=⟨wr,rfl⟩
     go_loopw [22] (fun s wr=>∃ i:Nat,i≤l.length∧s=.int .i64 i∧Hid (Below w2.heap.size w2 wr∧BX wr wt.heap.size [.func (.func 115) #[] #[]])∧Hid (∀ x,x<i→stepE l k x=0)) (fun s _=>l.length-(intOf s).toNat)
     case atStart=>exact ⟨0,Nat.zero_le _,rfl,lh ⟨go3 HB.out (ba _ _),BX.new wt [_] _ rfl⟩,lh (fun x hx=>by omega)⟩
     case round =>
      obtain ⟨i,hi,rfl,HW,HNI⟩:=hrel
      have y0:wr.cell? ⟨wt.heap.size,0,none⟩=some (.func (.func 115) #[] #[]):=HW.out.2.1 0 _ rfl
      have hs2:=HW.out.2.2.2
      clear x0
      by_cases hlt:i<l.length
      ·have HC:=lh (HST.out i hlt)
       by_cases h0:stepE l k i=0
       ·have HN2:Hid (∀ x,x<i+1→stepE l k x=0):=lh (fun x hx=>by
         rcases Nat.lt_or_ge x i with h1|h1
         ·exact HNI.out x h1
         ·obtain rfl:x=i:=by omega
          exact h0)
        rw [h0] at HC
        clear h0 HNI
        go_wp2_with (go_at_call 115;refine (HC.out _ HW.out.1).mono ?_;rintro e w5 ⟨rfl,hb5⟩;have HB5:=lh hb5;clear hb5)
        go_roundw
        case rel=>exact ⟨i+1,by omega,by go_num,lh ⟨go3 HW.out.1 HB5.out,HW.out.2.below HB5.out⟩,HN2⟩
        case measure=>simp [intOf];omega
       ·have HE:Hid (chkS l=stepE l k i):=lh (chkS_at (by omega) (by omega) HNO.out hlt HNI.out h0)
        have hb0:(stepE l k i != 0)=true:=by simpa using h0
        have hb1:(!stepE l k i==0)=true:=hb0
        generalize stepE l k i=E at *
        clear h0
        go_wp2_with (go_at_call 115;refine (HC.out _ HW.out.1).mono ?_;rintro e w5 ⟨rfl,hb5⟩;have HB5:=lh hb5;clear hb5)
        go_ret2
        exact RetCk.of HE.out rfl (go3 HB2.out (go3 HW.out.1 HB5.out))
      ·obtain rfl:i=l.length:=by omega
       have HN2:Hid (NoE l (k+1)):=lh (fun j hj x hx=>by
        rcases Nat.lt_or_ge j k with h1|h1
        ·exact HNO.out j h1 x hx
        ·have hjk:j=k:=by omega
         rw [hjk]
         exact HNI.out x hx)
       go_wp2_with fail
       go_roundw
       case rel=>exact ⟨k+1,by omega,by go_num,lh HW.out.1,HN2⟩
       case measure=>simp [intOf];omega
    ·
     have H1:Hid (k=1):=lh hkk
     clear hkk
     have hk5b:decide ((k:Int)<5)=true:=by simp;omega
     have HNL:Hid (0<1→∀ s∈l,∀ p∈s.2.2,lineOk p=true):=lh (fun h=>HNO.out.lines (by rw [H1.out];exact h))
     have x0:wr.cell? ⟨w1.heap.size,k,none⟩=some (.func (.func 116) #[] #[]):=by rw [H1.out];exact (HBX.out.below HB.out).1 1 _ rfl
     have HST:=lh (fun (i:Nat) (hi:i<l.length) W (hW:Below w2.heap.size w2 W)=>(show Calls Tryz.prog 116 #[.pointer (some ⟨w.heap.size+1,0,none⟩),.int .i64 i] W (RetE W (stepE l k i)) from by rw [H1.out];exact missing_any _ _ A c l i W (HF2.out.below hW) hi hl HZ.out.nm))
     go_wp2_with fail
     obtain ⟨wt,rfl⟩:∃ wt,wt=wr:=⟨wr,rfl⟩
     go_loopw [22] (fun s wr=>∃ i:Nat,i≤l.length∧s=.int .i64 i∧Hid (Below w2.heap.size w2 wr∧BX wr wt.heap.size [.func (.func 116) #[] #[]])∧Hid (∀ x,x<i→stepE l k x=0)) (fun s _=>l.length-(intOf s).toNat)
     case atStart=>exact ⟨0,Nat.zero_le _,rfl,lh ⟨go3 HB.out (ba _ _),BX.new wt [_] _ rfl⟩,lh (fun x hx=>by omega)⟩
     case round =>
      obtain ⟨i,hi,rfl,HW,HNI⟩:=hrel
      have y0:wr.cell? ⟨wt.heap.size,0,none⟩=some (.func (.func 116) #[] #[]):=HW.out.2.1 0 _ rfl
      have hs2:=HW.out.2.2.2
      clear x0
      by_cases hlt:i<l.length
      ·have HC:=lh (HST.out i hlt)
       by_cases h0:stepE l k i=0
       ·have HN2:Hid (∀ x,x<i+1→stepE l k x=0):=lh (fun x hx=>by
         rcases Nat.lt_or_ge x i with h1|h1
         ·exact HNI.out x h1
         ·obtain rfl:x=i:=by omega
          exact h0)
        rw [h0] at HC
        clear h0 HNI
        go_wp2_with (go_at_call 116;refine (HC.out _ HW.out.1).mono ?_;rintro e w5 ⟨rfl,hb5⟩;have HB5:=lh hb5;clear hb5)
        go_roundw
        case rel=>exact ⟨i+1,by omega,by go_num,lh ⟨go3 HW.out.1 HB5.out,HW.out.2.below HB5.out⟩,HN2⟩
        case measure=>simp [intOf];omega
       ·have HE:Hid (chkS l=stepE l k i):=lh (chkS_at (by omega) (by omega) HNO.out hlt HNI.out h0)
        have hb0:(stepE l k i != 0)=true:=by simpa using h0
        have hb1:(!stepE l k i==0)=true:=hb0
        generalize stepE l k i=E at *
        clear h0
        go_wp2_with (go_at_call 116;refine (HC.out _ HW.out.1).mono ?_;rintro e w5 ⟨rfl,hb5⟩;have HB5:=lh hb5;clear hb5)
        go_ret2
        exact RetCk.of HE.out rfl (go3 HB2.out (go3 HW.out.1 HB5.out))
      ·obtain rfl:i=l.length:=by omega
       have HN2:Hid (NoE l (k+1)):=lh (fun j hj x hx=>by
        rcases Nat.lt_or_ge j k with h1|h1
        ·exact HNO.out j h1 x hx
        ·have hjk:j=k:=by omega
         rw [hjk]
         exact HNI.out x hx)
       go_wp2_with fail
       go_roundw
       case rel=>exact ⟨k+1,by omega,by go_num,lh HW.out.1,HN2⟩
       case measure=>simp [intOf];omega
    ·
     have H2:Hid (k=2):=lh hkk
     clear hkk
     have hk5b:decide ((k:Int)<5)=true:=by simp;omega
     have HNL:Hid (0<2→∀ s∈l,∀ p∈s.2.2,lineOk p=true):=lh (fun h=>HNO.out.lines (by rw [H2.out];exact h))
     have x0:wr.cell? ⟨w1.heap.size,k,none⟩=some (.func (.func 117) #[] #[]):=by rw [H2.out];exact (HBX.out.below HB.out).1 2 _ rfl
     have HST:=lh (fun (i:Nat) (hi:i<l.length) W (hW:Below w2.heap.size w2 W)=>(show Calls Tryz.prog 117 #[.pointer (some ⟨w.heap.size+1,0,none⟩),.int .i64 i] W (RetE W (stepE l k i)) from by rw [H2.out];exact cycle_any _ _ A c l i W (HF2.out.below hW) hi hl HZ.out.nm))
     go_wp2_with fail
     obtain ⟨wt,rfl⟩:∃ wt,wt=wr:=⟨wr,rfl⟩
     go_loopw [22] (fun s wr=>∃ i:Nat,i≤l.length∧s=.int .i64 i∧Hid (Below w2.heap.size w2 wr∧BX wr wt.heap.size [.func (.func 117) #[] #[]])∧Hid (∀ x,x<i→stepE l k x=0)) (fun s _=>l.length-(intOf s).toNat)
     case atStart=>exact ⟨0,Nat.zero_le _,rfl,lh ⟨go3 HB.out (ba _ _),BX.new wt [_] _ rfl⟩,lh (fun x hx=>by omega)⟩
     case round =>
      obtain ⟨i,hi,rfl,HW,HNI⟩:=hrel
      have y0:wr.cell? ⟨wt.heap.size,0,none⟩=some (.func (.func 117) #[] #[]):=HW.out.2.1 0 _ rfl
      have hs2:=HW.out.2.2.2
      clear x0
      by_cases hlt:i<l.length
      ·have HC:=lh (HST.out i hlt)
       by_cases h0:stepE l k i=0
       ·have HN2:Hid (∀ x,x<i+1→stepE l k x=0):=lh (fun x hx=>by
         rcases Nat.lt_or_ge x i with h1|h1
         ·exact HNI.out x h1
         ·obtain rfl:x=i:=by omega
          exact h0)
        rw [h0] at HC
        clear h0 HNI
        go_wp2_with (go_at_call 117;refine (HC.out _ HW.out.1).mono ?_;rintro e w5 ⟨rfl,hb5⟩;have HB5:=lh hb5;clear hb5)
        go_roundw
        case rel=>exact ⟨i+1,by omega,by go_num,lh ⟨go3 HW.out.1 HB5.out,HW.out.2.below HB5.out⟩,HN2⟩
        case measure=>simp [intOf];omega
       ·have HE:Hid (chkS l=stepE l k i):=lh (chkS_at (by omega) (by omega) HNO.out hlt HNI.out h0)
        have hb0:(stepE l k i != 0)=true:=by simpa using h0
        have hb1:(!stepE l k i==0)=true:=hb0
        generalize stepE l k i=E at *
        clear h0
        go_wp2_with (go_at_call 117;refine (HC.out _ HW.out.1).mono ?_;rintro e w5 ⟨rfl,hb5⟩;have HB5:=lh hb5;clear hb5)
        go_ret2
        exact RetCk.of HE.out rfl (go3 HB2.out (go3 HW.out.1 HB5.out))
      ·obtain rfl:i=l.length:=by omega
       have HN2:Hid (NoE l (k+1)):=lh (fun j hj x hx=>by
        rcases Nat.lt_or_ge j k with h1|h1
        ·exact HNO.out j h1 x hx
        ·have hjk:j=k:=by omega
         rw [hjk]
         exact HNI.out x hx)
       go_wp2_with fail
       go_roundw
       case rel=>exact ⟨k+1,by omega,by go_num,lh HW.out.1,HN2⟩
       case measure=>simp [intOf];omega
    ·
     have H3:Hid (k=3):=lh hkk
     clear hkk
     have hk5b:decide ((k:Int)<5)=true:=by simp;omega
     have HNL:Hid (0<3→∀ s∈l,∀ p∈s.2.2,lineOk p=true):=lh (fun h=>HNO.out.lines (by rw [H3.out];exact h))
     have x0:wr.cell? ⟨w1.heap.size,k,none⟩=some (.func (.func 118) #[] #[]):=by rw [H3.out];exact (HBX.out.below HB.out).1 3 _ rfl
     have HST:=lh (fun (i:Nat) (hi:i<l.length) W (hW:Below w2.heap.size w2 W)=>(show Calls Tryz.prog 118 #[.pointer (some ⟨w.heap.size+1,0,none⟩),.int .i64 i] W (RetE W (stepE l k i)) from by rw [H3.out];exact deep_any _ _ A c l i W (HF2.out.below hW) hi hl HZ.out.nm))
     go_wp2_with fail
     obtain ⟨wt,rfl⟩:∃ wt,wt=wr:=⟨wr,rfl⟩
     go_loopw [22] (fun s wr=>∃ i:Nat,i≤l.length∧s=.int .i64 i∧Hid (Below w2.heap.size w2 wr∧BX wr wt.heap.size [.func (.func 118) #[] #[]])∧Hid (∀ x,x<i→stepE l k x=0)) (fun s _=>l.length-(intOf s).toNat)
     case atStart=>exact ⟨0,Nat.zero_le _,rfl,lh ⟨go3 HB.out (ba _ _),BX.new wt [_] _ rfl⟩,lh (fun x hx=>by omega)⟩
     case round =>
      obtain ⟨i,hi,rfl,HW,HNI⟩:=hrel
      have y0:wr.cell? ⟨wt.heap.size,0,none⟩=some (.func (.func 118) #[] #[]):=HW.out.2.1 0 _ rfl
      have hs2:=HW.out.2.2.2
      clear x0
      by_cases hlt:i<l.length
      ·have HC:=lh (HST.out i hlt)
       by_cases h0:stepE l k i=0
       ·have HN2:Hid (∀ x,x<i+1→stepE l k x=0):=lh (fun x hx=>by
         rcases Nat.lt_or_ge x i with h1|h1
         ·exact HNI.out x h1
         ·obtain rfl:x=i:=by omega
          exact h0)
        rw [h0] at HC
        clear h0 HNI
        go_wp2_with (go_at_call 118;refine (HC.out _ HW.out.1).mono ?_;rintro e w5 ⟨rfl,hb5⟩;have HB5:=lh hb5;clear hb5)
        go_roundw
        case rel=>exact ⟨i+1,by omega,by go_num,lh ⟨go3 HW.out.1 HB5.out,HW.out.2.below HB5.out⟩,HN2⟩
        case measure=>simp [intOf];omega
       ·have HE:Hid (chkS l=stepE l k i):=lh (chkS_at (by omega) (by omega) HNO.out hlt HNI.out h0)
        have hb0:(stepE l k i != 0)=true:=by simpa using h0
        have hb1:(!stepE l k i==0)=true:=hb0
        generalize stepE l k i=E at *
        clear h0
        go_wp2_with (go_at_call 118;refine (HC.out _ HW.out.1).mono ?_;rintro e w5 ⟨rfl,hb5⟩;have HB5:=lh hb5;clear hb5)
        go_ret2
        exact RetCk.of HE.out rfl (go3 HB2.out (go3 HW.out.1 HB5.out))
      ·obtain rfl:i=l.length:=by omega
       have HN2:Hid (NoE l (k+1)):=lh (fun j hj x hx=>by
        rcases Nat.lt_or_ge j k with h1|h1
        ·exact HNO.out j h1 x hx
        ·have hjk:j=k:=by omega
         rw [hjk]
         exact HNI.out x hx)
       go_wp2_with fail
       go_roundw
       case rel=>exact ⟨k+1,by omega,by go_num,lh HW.out.1,HN2⟩
       case measure=>simp [intOf];omega
    ·
     have H4:Hid (k=4):=lh hkk
     clear hkk
     have hk5b:decide ((k:Int)<5)=true:=by simp;omega
     have HNL:Hid (0<4→∀ s∈l,∀ p∈s.2.2,lineOk p=true):=lh (fun h=>HNO.out.lines (by rw [H4.out];exact h))
     have x0:wr.cell? ⟨w1.heap.size,k,none⟩=some (.func (.func 119) #[] #[]):=by rw [H4.out];exact (HBX.out.below HB.out).1 4 _ rfl
     have HST:=lh (fun (i:Nat) (hi:i<l.length) W (hW:Below w2.heap.size w2 W)=>(show Calls Tryz.prog 119 #[.pointer (some ⟨w.heap.size+1,0,none⟩),.int .i64 i] W (RetE W (stepE l k i)) from by rw [H4.out];exact bad_any _ _ A c l i W (HF2.out.below hW) hi hl HZ.out (HNL.out (by omega))))
     go_wp2_with fail
     obtain ⟨wt,rfl⟩:∃ wt,wt=wr:=⟨wr,rfl⟩
     go_loopw [22] (fun s wr=>∃ i:Nat,i≤l.length∧s=.int .i64 i∧Hid (Below w2.heap.size w2 wr∧BX wr wt.heap.size [.func (.func 119) #[] #[]])∧Hid (∀ x,x<i→stepE l k x=0)) (fun s _=>l.length-(intOf s).toNat)
     case atStart=>exact ⟨0,Nat.zero_le _,rfl,lh ⟨go3 HB.out (ba _ _),BX.new wt [_] _ rfl⟩,lh (fun x hx=>by omega)⟩
     case round =>
      obtain ⟨i,hi,rfl,HW,HNI⟩:=hrel
      have y0:wr.cell? ⟨wt.heap.size,0,none⟩=some (.func (.func 119) #[] #[]):=HW.out.2.1 0 _ rfl
      have hs2:=HW.out.2.2.2
      clear x0
      by_cases hlt:i<l.length
      ·have HC:=lh (HST.out i hlt)
       by_cases h0:stepE l k i=0
       ·have HN2:Hid (∀ x,x<i+1→stepE l k x=0):=lh (fun x hx=>by
         rcases Nat.lt_or_ge x i with h1|h1
         ·exact HNI.out x h1
         ·obtain rfl:x=i:=by omega
          exact h0)
        rw [h0] at HC
        clear h0 HNI
        go_wp2_with (go_at_call 119;refine (HC.out _ HW.out.1).mono ?_;rintro e w5 ⟨rfl,hb5⟩;have HB5:=lh hb5;clear hb5)
        go_roundw
        case rel=>exact ⟨i+1,by omega,by go_num,lh ⟨go3 HW.out.1 HB5.out,HW.out.2.below HB5.out⟩,HN2⟩
        case measure=>simp [intOf];omega
       ·have HE:Hid (chkS l=stepE l k i):=lh (chkS_at (by omega) (by omega) HNO.out hlt HNI.out h0)
        have hb0:(stepE l k i != 0)=true:=by simpa using h0
        have hb1:(!stepE l k i==0)=true:=hb0
        generalize stepE l k i=E at *
        clear h0
        go_wp2_with (go_at_call 119;refine (HC.out _ HW.out.1).mono ?_;rintro e w5 ⟨rfl,hb5⟩;have HB5:=lh hb5;clear hb5)
        go_ret2
        exact RetCk.of HE.out rfl (go3 HB2.out (go3 HW.out.1 HB5.out))
      ·obtain rfl:i=l.length:=by omega
       have HN2:Hid (NoE l (k+1)):=lh (fun j hj x hx=>by
        rcases Nat.lt_or_ge j k with h1|h1
        ·exact HNO.out j h1 x hx
        ·have hjk:j=k:=by omega
         rw [hjk]
         exact HNI.out x hx)
       go_wp2_with fail
       go_roundw
       case rel=>exact ⟨k+1,by omega,by go_num,lh HW.out.1,HN2⟩
       case measure=>simp [intOf];omega
   ·obtain rfl:k=5:=by omega
    have HE:Hid (chkS l=0):=lh (chkS_no (by omega) HNO.out)
    go_wp2_with fail
    go_ret2
    exact RetCk.of HE.out rfl (go3 HB2.out HB.out)
open Pm
open Go.RowKit Go.WideShapes
def RetF (w:World) (A:Option Addr) (c:Nat) (l:List St) (name:ByteArray) (e:Ending) (w':World):Prop :=
 (findE l name=0→∃ g m i,idxS l name=some i∧e=.returned (.tuple #[.pointer (some ⟨g,0,none⟩),.int .i64 (i:Int),.int .i64 0])∧FO w' g m A c l∧Below w.heap.size w w') ∧
 (findE l name≠0→∃ p,e=.returned (.tuple #[.pointer p,.int .i64 0,.int .i64 (findE l name)])∧Below w.heap.size w w')
set_option maxRecDepth 100000 in
theorem find_any (A:Option Addr) (c:Nat) (l:List St) (name:ByteArray) (w:World) (h:STR w A c l) (hl:l.length≤100) (hz:SzS l) (hm:ML w) (hn:name.size≤9223372036854775807) :
 Calls Tryz.prog 19 #[.slice A l.length c,.string name] w (RetF w A c l name):=by
 have HCK:=lh (checkS_any A c l w h hl hz hm)
 have HNF:=lh (fun W (hW:Below w.heap.size w W)=>newForest_any A c l W (h.below hW) hl hz.nm)
 have q1:=h.1
 have q2:=h.2.1
 clear h hz hm
 by_cases h0:chkS l=0
 ·rw [h0] at HCK
  cases hx:idxS l name with
  | none =>
   have HE:Hid (findE l name=86):=lh (by unfold findE;rw [if_pos h0,hx])
   have HLK:Hid (∀ (W:World) g m,FO W g m A c l→(Instr.lookup 64 (.map (some m)) (.string name) true).run Tryz.prog W=.ok (.tuple #[.int .i64 0,.bool false]) W):=lh (fun W g m hf=>by
    have:=(hf.lk hn).1
    rw [hx] at this
    exact this)
   clear h0 hx
   go_enter Tryz.func19,Tryz.ntmps19
   go_wp2_with (first
    | (go_at_call 49;refine HCK.out.mono ?_;rintro e w1 ⟨i1,rfl,hb1⟩;have HB1:=lh hb1;clear hb1)
    | (go_at_call 50;refine (HNF.out _ HB1.out).mono ?_;rintro e w2 ⟨rfl,hfo,hb2⟩;have HB2:=lh (go3 HB1.out hb2);have hlk:=HLK.out _ _ _ hfo;obtain ⟨y0,y1⟩:=hfo.1.c2;have hg:=hfo.1.2.2;clear hfo hb2))
   refine bodyPost_ret (v:=.tuple #[.pointer none,.int .i64 0,.int .i64 86]) (by simp [results,Tryz.results19,go_sem]) rfl ⟨fun h=>absurd (HE.out.symm.trans h) (by decide),fun _=>⟨none,by rw [HE.out],HB2.out⟩⟩
  | some i =>
   have HE:Hid (findE l name=0):=lh (by unfold findE;rw [if_pos h0,hx])
   have HI:=lh hx
   have HLK:Hid (∀ (W:World) g m,FO W g m A c l→(Instr.lookup 64 (.map (some m)) (.string name) true).run Tryz.prog W=.ok (.tuple #[.int .i64 (i:Int),.bool true]) W):=lh (fun W g m hf=>by
    have:=(hf.lk hn).1
    rw [hx] at this
    exact this)
   clear h0 hx
   go_enter Tryz.func19,Tryz.ntmps19
   go_wp2_with (first
    | (go_at_call 49;refine HCK.out.mono ?_;rintro e w1 ⟨i1,rfl,hb1⟩;have HB1:=lh hb1;clear hb1)
    | (go_at_call 50;refine (HNF.out _ HB1.out).mono ?_;rintro e w2 ⟨rfl,hfo,hb2⟩;have HB2:=lh (go3 HB1.out hb2);have HF2:=lh hfo;have hlk:=HLK.out _ _ _ hfo;obtain ⟨y0,y1⟩:=hfo.1.c2;have hg:=hfo.1.2.2;clear hfo hb2))
   refine bodyPost_ret (v:=.tuple #[.pointer (some ⟨w1.heap.size+1,0,none⟩),.int .i64 (i:Int),.int .i64 0]) (by simp [results,Tryz.results19,go_sem]) rfl ⟨fun _=>⟨w1.heap.size+1,w1.heap.size,i,HI.out,rfl,HF2.out,HB2.out⟩,fun h=>absurd HE.out h⟩
 ·have HE:Hid (findE l name=chkS l):=lh (if_neg h0)
  have hb0:(chkS l != 0)=true:=by simpa using h0
  have hb1:(!chkS l==0)=true:=hb0
  generalize chkS l=E at *
  have HNE:=lh h0
  clear h0
  go_enter Tryz.func19,Tryz.ntmps19
  go_wp2_with (first
   | (go_at_call 49;refine HCK.out.mono ?_;rintro e w1 ⟨i1,rfl,hb1⟩;have HB1:=lh hb1;clear hb1))
  refine bodyPost_ret (v:=.tuple #[.pointer none,.int .i64 0,.int .i64 E]) (by simp [results,Tryz.results19,go_sem]) rfl ⟨fun h=>absurd (HE.out.symm.trans h) HNE.out,fun _=>⟨none,by rw [HE.out],HB1.out⟩⟩
theorem rt_one1 {w:World} {x:ByteArray} {t:TypeId} {g:Nat} (hg:g=w.heap.size):RT (w.alloc (.cells #[.string x] t)) (some ⟨g,0,none⟩) 1 [x]:=by
 subst hg
 exact RT.one _ _ _
def namesS (l:List St) (L:List Nat):List ByteArray:=L.map fun j=>(l.getD j (⟨#[]⟩,⟨#[]⟩,[])).1
def RetAn (w:World) (l:List St) (name:ByteArray) (e:Ending) (w':World):Prop :=
 (findE l name=0→∃ i A c,idxS l name=some i∧e=.returned (.tuple #[.slice A (abvS l i).length c,.int .i64 0])∧RT w' A c (namesS l (abvS l i))∧Below w.heap.size w w') ∧
 (findE l name≠0→e=.returned (.tuple #[.slice none 0 0,.int .i64 (findE l name)])∧Below w.heap.size w w')
set_option maxRecDepth 100000 in
theorem ancestors_any (A:Option Addr) (c:Nat) (l:List St) (name:ByteArray) (w:World) (h:STR w A c l) (hl:l.length≤100) (hz:SzS l) (hm:ML w) (hn:name.size≤9223372036854775807) :
 Calls Tryz.prog 7 #[.slice A l.length c,.string name] w (RetAn w l name):=by
 have HFI:=lh (find_any A c l name w h hl hz hm hn)
 have q1:=h.1
 have q2:=h.2.1
 have HZ:=lh hz
 clear h hz hm
 by_cases h0:findE l name=0
 ·have HF2:=lh (HFI.out.mono fun _ _ h=>h.1 h0)
  have HE:=lh h0
  clear h0 HFI
  go_enter Tryz.func7,Tryz.ntmps7
  go_wp2_with (first
   | (go_at_call 19;refine HF2.out.mono ?_;rintro e w1 ⟨g,m,i,hi,rfl,hfo,hb1⟩;have HI:=lh hi;have hil:=idxS_lt hi;have HFO:=lh hfo;have HB1:=lh hb1;clear hi hfo hb1)
   | (go_at_call 20;refine (above_any g m A c l i _ HFO.out hil hl HZ.out.nm).mono ?_;rintro e w2 ⟨A2,c2,rfl,hsv,hb2⟩;have HSV:=lh hsv;have HB2:=lh hb2;have q3:=hsv.lenc;have q4:=hsv.capc;clear hsv hb2))
  have hw2:=HB2.out.size
  have hll:(abvS l i).length≤100:=Nat.le_trans (abvF_len _ _) hl
  have HF2:=lh (HFO.out.below HB2.out)
  have HLT:Hid (∀ x∈abvS l i,x<l.length):=lh (fun x hx=>abvF_lt _ _ x hx)
  have HR:Hid (∀ e w',(∃ A c,e=.returned (.tuple #[.slice A (abvS l i).length c,.int .i64 0])∧RT w' A c (namesS l (abvS l i))∧Below w.heap.size w w')→RetAn w l name e w'):=lh (fun e w' ⟨A3,c3,h1,h2,h3⟩=>⟨fun _=>⟨i,A3,c3,HI.out,h1,h2,h3⟩,fun h=>absurd HE.out h⟩)
  generalize abvS l i=L at *
  go_loopw [9,26] (fun s9 s26 wr=>∃ (k n9:Nat) (A9:Option Addr) (c9:Nat),k≤L.length∧s26=.int .i64 k∧s9=.slice A9 n9 c9∧n9≤k∧Hid (n9=(namesS l (L.take k)).length∧OT wr w2.heap.size (.slice A9 n9 c9) (namesS l (L.take k))∧Below w2.heap.size w2 wr)) (fun _ s _=>L.length-(intOf s).toNat)
  case atStart=>exact ⟨0,0,none,0,Nat.zero_le _,rfl,rfl,Nat.le_refl _,lh ⟨rfl,OT.nil _ _,Below.refl _ _⟩⟩
  case round =>
   obtain ⟨k,n9,A9,c9,hk,rfl,rfl,hn9,HQ⟩:=hrel
   by_cases hlt:k<L.length
   ·obtain ⟨x,hx⟩:∃ x,L[k]? = some x:=⟨_,gE hlt⟩
    have hxl:=HLT.out x (mG hx)
    obtain ⟨b,o,rfl,hbw,x0⟩:=(HSV.out.below HQ.out.2.2).nat hx
    obtain ⟨t,ht⟩:∃ t,l[x]? = some t:=⟨_,gE hxl⟩
    obtain ⟨b1,o1,P,n,rfl,hbw1,z0,z1,z2,-⟩:=HF2.out.line HQ.out.2.2 ht
    have HW0:=HF2.out.below HQ.out.2.2
    obtain ⟨y0,y1⟩:=HW0.1.c2
    have hgw:=HW0.1.2.2
    have HX:Hid (namesS l (L.take (k+1))=namesS l (L.take k)++[t.1]):=lh (by
     unfold namesS
     rw [List.take_add_one,hx,List.map_append]
     congr 1
     simp [List.getD_eq_getElem?_getD,ht])
    clear hx ht HW0
    go_wp2_with (at_builtin;refine wpList_append_texts rfl _ _ rfl w2.heap.size _ (namesS l (L.take k)) [t.1] (some ⟨wr.heap.size,0,none⟩) 1 rfl rfl (HQ.out.2.1.below bB) (rt_one1 (by simp)) (by have:=HQ.out.1;simp only [List.length_singleton];omega) (by have:=HQ.out.2.2.size;simp;omega) ?_;intro v8 w8 hown hg _;obtain ⟨A8,c8,rfl,hrt8⟩:=hown.read;have HO8:=lh hown;have HB8:=lh ((go3 HQ.out.2.2 (show Below wr.heap.size wr _ from bB)).grown hg (Nat.le_trans HQ.out.2.2.size (by simp)) (fun j hj=>HQ.out.2.1.own j hj));have HL8:Hid ((namesS l (L.take k)++[t.1]).length=n9+1):=lh (by rw [List.length_append,← HQ.out.1];rfl);obtain ⟨n8,HN8⟩:∃ n8,Hid ((namesS l (L.take k)++[t.1]).length=n8):=⟨_,lh rfl⟩;clear hown hg hrt8;rw [HN8.out] at HO8 HL8 ⊢)
    go_roundw
    case rel =>
     have h8:=HL8.out
     refine ⟨k+1,n8,A8,c8,by omega,by go_num,rfl,by omega,lh ?_⟩
     rw [HX.out]
     exact ⟨HN8.out.symm,HO8.out,HB8.out⟩
    case measure=>simp [intOf];omega
   ·obtain rfl:k=L.length:=by omega
    obtain ⟨A3,c3,hv3,hrt⟩:=HQ.out.2.1.read
    rw [List.take_length] at hv3 hrt
    have hnl:(namesS l L).length=L.length:=List.length_map _
    rw [hnl] at hv3
    cases hv3
    have HRT:=lh hrt
    clear hrt
    go_wp2_with fail
    go_ret2
    exact HR.out _ _ ⟨_,_,rfl,HRT.out,go3 HB1.out (go3 HB2.out HQ.out.2.2)⟩
 ·have HF2:=lh (HFI.out.mono fun _ _ h=>h.2 h0)
  have HNE:=lh h0
  have hb0:(findE l name != 0)=true:=by simpa using h0
  have hb1:(!findE l name==0)=true:=hb0
  have HR:Hid (∀ e w',(e=.returned (.tuple #[.slice none 0 0,.int .i64 (findE l name)])∧Below w.heap.size w w')→RetAn w l name e w'):=lh (fun e w' h=>⟨fun h2=>absurd h2 HNE.out,fun _=>h⟩)
  generalize findE l name=E at *
  clear h0 HFI
  go_enter Tryz.func7,Tryz.ntmps7
  go_wp2_with (first
   | (go_at_call 19;refine HF2.out.mono ?_;rintro e w1 ⟨p1,rfl,hb1⟩;have HB1:=lh hb1;clear hb1))
  go_ret2
  exact HR.out _ _ ⟨rfl,HB1.out⟩
open Go.RowKit Go.Shelf
attribute [local go_sem] Oper.semAt_some
structure L5 where
 k:Int
 A:Option Addr
 n:Nat
 c:Nat
 q:Bool
 B:Option Addr
 m:Nat
 d:Nat
 t:Bool
def L5.l (r:L5):List Value:=[.int .i64 r.k,.slice r.A r.n r.c,.bool r.q,.slice r.B r.m r.d,.bool r.t]
def L5s (n₀:Nat) (W:World) (A:Option Addr) (n:Nat) (r:Nat→L5):Prop:=∀ j,j<n→∃ b o,A=some ⟨b,o,none⟩∧b<n₀∧W.cell? ⟨b,o+j * 5,none⟩=some (.int .i64 (r j).k)∧W.cell? ⟨b,o+j * 5+1,none⟩=some (.slice (r j).A (r j).n (r j).c)∧W.cell? ⟨b,o+j * 5+2,none⟩=some (.bool (r j).q)∧W.cell? ⟨b,o+j * 5+3,none⟩=some (.slice (r j).B (r j).m (r j).d)∧W.cell? ⟨b,o+j * 5+4,none⟩=some (.bool (r j).t)
theorem L5s.below {n₀:Nat} {W W':World} {A:Option Addr} {n:Nat} {r:Nat→L5} (h:L5s n₀ W A n r) (hb:Below n₀ W W'):L5s n₀ W' A n r:=fun j hj=>by
 obtain ⟨b,o,e,hlt,k0,k1,k2,k3,k4⟩:=h j hj
 exact ⟨b,o,e,hlt,(hb.cell (p:=⟨b,_,none⟩) hlt).trans k0,(hb.cell (p:=⟨b,_,none⟩) hlt).trans k1,(hb.cell (p:=⟨b,_,none⟩) hlt).trans k2,(hb.cell (p:=⟨b,_,none⟩) hlt).trans k3,(hb.cell (p:=⟨b,_,none⟩) hlt).trans k4⟩
theorem backward_mk (F:Fence) (m:Nat) (hf:F.fn 94) (hro:F.round=none) (A:Option Addr) (n c:Nat) (w:World) :
 CallsIn F m Tryz.prog 94 #[.slice A n c] w fun e w'=>e=.returned (.func (.func 128) #[] #[.pointer (some ⟨w.heap.size,0,none⟩)])∧w'=w.alloc (.cells #[.slice A n c] 52):=by
 refine callsIn_of_wp Tryz.func94 rfl hf ?_ hro
 simp only [Tryz.ntmps94,List.size_toArray,List.length_cons,List.length_nil,Nat.reduceAdd,Nat.reduceSub,Array.replicate_succ,Array.replicate_zero,List.push_toArray,List.append_toArray,List.nil_append,List.cons_append]
 gi_wp2
 go_ret
 exact ⟨rfl,rfl⟩
theorem rev_take (n k:Nat) (hk:k<n):(List.range n).reverse.take (n-k)=(List.range n).reverse.take (n-(k+1))++[k]:=by
 have e:n-k=(n-(k+1))+1:=by omega
 rw [e,List.take_add_one]
 congr 1
 rw [gE (by simp;omega),List.getElem_reverse]
 simp
 omega
set_option maxRecDepth 100000 in
theorem backward_in (F:Fence) (m:Nat) (hf:F.fn 128) (hro:F.round=none) (hm:1≤m) (l g0 n₀ n c:Nat) (A:Option Addr) (r:Nat→L5) (hl:n≤1000) (hg0:g0<n₀)
 (J Jx:List {q:Nat // q<n}→World→Prop) (W:World)
 (hY:∀ pre x W1,J pre W1→pre.length<n→YieldAt F (m-1) Tryz.prog l #[.int .i64 (x.1:Int),.agg (r x.1).l.toArray] W1 fun e W' =>
  (e=.returned (.bool true)∧J (pre++[x]) W'∧Below n₀ W1 W')∨(e=.returned (.bool false)∧Jx (pre++[x]) W'))
 (b0:W.cell? ⟨g0,0,none⟩=some (.slice A n c)) (h1:L5s n₀ W A n r) (h0:J [] W) (hnw:n₀≤W.heap.size) :
 CallsIn F m Tryz.prog 128 #[.func (.yield l) #[] #[],.pointer (some ⟨g0,0,none⟩)] W fun e W'=>(∃ v,e=.returned v) ∧
  ((∃ xs,xs.map (·.1)=(List.range n).reverse∧J xs W')∨(∃ pre,(∃ k,pre.map (·.1)=(List.range n).reverse.take k)∧Jx pre W')):=by
 refine callsIn_of_wp Tryz.func128 rfl hf ?_ hro
 simp only [Tryz.ntmps128,List.size_toArray,List.length_cons,List.length_nil,Nat.reduceAdd,Nat.reduceSub,Array.replicate_succ,Array.replicate_zero,List.push_toArray,List.append_toArray,List.nil_append,List.cons_append]
 gi_wp2
 gi_loopw [3] (fun i wr=>∃ (k:Nat) (pre:List {q:Nat // q<n}),k≤n∧i=.int .i64 ((k:Int)-1)∧pre.map (·.1)=(List.range n).reverse.take (n-k)∧J pre wr∧Below n₀ W wr)
  (fun i _=>(intOf i+1).toNat)
 case atStart=>exact ⟨n,[],Nat.le_refl _,rfl,by simp,h0,Below.refl _ _⟩
 case round =>
  obtain ⟨k,pre,hk,rfl,hpre,hJs,hnx⟩:=hrel
  cases k with
  | zero =>
   have e0:((0:Nat):Int)-1 = -1:=rfl
   rw [e0] at *
   gi_wp2
   go_end0
   exact ⟨⟨_,rfl⟩,.inl ⟨pre,by rw [Nat.sub_zero,List.take_of_length_le (by simp)] at hpre;exact hpre,hJs⟩⟩
  | succ k =>
   have e0:((k+1:Nat):Int)-1=(k:Int):=by omega
   rw [e0] at *
   have hkn:k<n:=hk
   obtain ⟨b,o,rfl,hb,x0,x1,x2,x3,x4⟩:=h1.below hnx k hkn
   have y0:wr.cell? ⟨g0,0,none⟩=some (.slice (some ⟨b,o,none⟩) n c):=(hnx.cell (p:=⟨g0,0,none⟩) hg0).trans b0
   have hlen:pre.length<n:=by
    have:=congrArg List.length hpre
    rw [List.length_map,List.length_take,List.length_reverse,List.length_range] at this
    omega
   have hy0:=hY pre ⟨k,hkn⟩ _ hJs hlen
   simp only [L5.l] at hy0
   obtain ⟨fn,tmps,assign,body,hy,hR⟩:=hy0
   have hmap:List.map (fun x:{q:Nat // q<n}=>x.1) (pre++[(⟨k,hkn⟩:{q:Nat // q<n})])=(List.range n).reverse.take (n-k):=by rw [List.map_append,hpre,rev_take n k hkn];rfl
   gi_wp2
   refine hR.mono ?_
   rintro e W3 (⟨rfl,hJ3,hk3⟩|⟨rfl,hJx3⟩)
   ·gi_wp2
    go_roundw
    case rel=>exact ⟨k,_,by omega,by simp,hmap,hJ3,hnx.trans hk3⟩
    case measure=>simp [intOf]
   ·gi_wp2
    refine bodyPost_ret (results_none rfl _ _ _) rfl ?_
    exact ⟨⟨_,rfl⟩,.inr ⟨_,⟨_,hmap⟩,hJx3⟩⟩
end Go.Proofs.YtelkmeiepliecaaGreatDoor
