/-
  Part 10 of the proof.
-/
import Derived.Test.YtelkmeiepliecaaGreatDoorV09
set_option linter.unusedSimpArgs false
set_option linter.unusedVariables false
set_option maxHeartbeats 16000000
namespace Go.Proofs.YtelkmeiepliecaaGreatDoor
open Go.RowKit
open Pm
def bindOk (xs:List ByteArray) (q rest:Bool):Bool :=
 if (rest=false∧(xs.length≠1∨q=true))∨(xs.length=0∧q=false) then false else xs.all partB
theorem ret_b {a b:Bool} (h:a=b):Ending.returned (.bool a)=.returned (.bool b):=by rw [h]
theorem isBinding_any (A:Option Addr) (c:Nat) (xs:List ByteArray) (q rest:Bool) (w:World) (h:RT w A c xs) (hz:∀ x∈xs,x.size≤9223372036854775807) :
 Calls Tryz.prog 124 #[.agg #[.slice A xs.length c,.bool q],.bool rest] w fun e w'=>e=.returned (.bool (bindOk xs q rest))∧Below w.heap.size w w':=by
 have HX:At (fun w=>RT w A c xs) (w.alloc (.cells #[.slice A xs.length c,.bool q] 202)):=⟨kept_rt _ _ _,h.below (ba _ _)⟩
 have HZ:=lh hz
 have h1:=h.1
 have h2:=h.2.1
 clear h hz
 rcases (by omega:xs.length=0∨xs.length=1∨(¬ xs.length=0∧¬ xs.length=1)) with hl|hl|hl
 ·have hn0:((xs.length:Int)==0)=true:=by rw [hl];rfl
  have hn1:((xs.length:Int)==1)=false:=by rw [hl];rfl
  have hm1:((xs.length:Int) != 1)=true:=by rw [hl];rfl
  have HL:=lh hl
  clear hl
  cases rest with
  | false =>
   cases q with
   | false =>
    go_enter Tryz.func124,Tryz.ntmps124
    go_wp2_with fail
    go_ret
    exact ⟨ret_b (by unfold bindOk;simp [HL.out]),ba _ _⟩
   | true =>
    go_enter Tryz.func124,Tryz.ntmps124
    go_wp2_with fail
    go_ret
    exact ⟨ret_b (by unfold bindOk;simp [HL.out]),ba _ _⟩
  | true =>
   cases q with
   | false =>
    go_enter Tryz.func124,Tryz.ntmps124
    go_wp2_with fail
    go_ret
    exact ⟨ret_b (by unfold bindOk;simp [HL.out]),ba _ _⟩
   | true =>
    have HB:Hid (bindOk xs true true=xs.all partB):=lh (by unfold bindOk;simp [HL.out])
    go_enter Tryz.func124,Tryz.ntmps124
    go_wp2_with fail
    go_loop [33] (fun i=>∃ k:Nat,k≤xs.length∧i=.int .i64 k∧Hid ((xs.take k).all partB=true)) (fun i=>xs.length-(intOf i).toNat)
    case atStart=>exact ⟨0,Nat.zero_le _,rfl,lh (by simp)⟩
    case round =>
     obtain ⟨k,hk,rfl,HS⟩:=hrel
     by_cases hlt:k<xs.length
     ·obtain ⟨x,hx⟩:∃ x,xs[k]? = some x:=⟨_,gE hlt⟩
      obtain ⟨b1,o1,rfl,hb1,hc1⟩:=HX.out.2.2 (by omega)
      have hcx:=hc1 k x hx
      have hxz:=HZ.out x (mG hx)
      have HTK:Hid (xs.take (k+1)=xs.take k++[x]):=lh (by rw [List.take_add_one,hx];rfl)
      have HMX:=lh (mG hx)
      clear hc1 hx hb1
      cases hp:partB x with
      | false =>
       have hfb:(formB x==0)=true:=by rw [(form_zero x).2 hp];rfl
       have HP:=lh hp
       clear hp
       go_wp2_with (go_at_call 114;refine (formOf_any _ _ hxz).mono ?_;rintro e w' ⟨rfl,rfl⟩)
       go_ret
       exact ⟨ret_b (by rw [HB.out];exact (List.all_eq_false.2 ⟨x,HMX.out,by rw [HP.out];simp⟩).symm),ba _ _⟩
      | true =>
       have hfb:(formB x==0)=false:=by
        rw [beq_eq_false_iff_ne]
        intro e
        rw [(form_zero x).1 e] at hp
        cases hp
       have HP:=lh hp
       clear hp
       go_wp2_with (go_at_call 114;refine (formOf_any _ _ hxz).mono ?_;rintro e w' ⟨rfl,rfl⟩)
       go_round
       case rel=>exact ⟨k+1,by omega,by go_num,lh (by rw [HTK.out,List.all_append,HS.out];simp [HP.out])⟩
       case measure=>simp [intOf];omega
     ·obtain rfl:k=xs.length:=by omega
      go_wp2_with fail
      go_ret
      exact ⟨ret_b (by rw [HB.out,← HS.out,List.take_length]),ba _ _⟩
 ·have hn0:((xs.length:Int)==0)=false:=by rw [hl];rfl
  have hn1:((xs.length:Int)==1)=true:=by rw [hl];rfl
  have hm1:((xs.length:Int) != 1)=false:=by rw [hl];rfl
  have HL:=lh hl
  clear hl
  cases rest with
  | false =>
   cases q with
   | false =>
    have HB:Hid (bindOk xs false false=xs.all partB):=lh (by unfold bindOk;simp [HL.out])
    go_enter Tryz.func124,Tryz.ntmps124
    go_wp2_with fail
    go_loop [33] (fun i=>∃ k:Nat,k≤xs.length∧i=.int .i64 k∧Hid ((xs.take k).all partB=true)) (fun i=>xs.length-(intOf i).toNat)
    case atStart=>exact ⟨0,Nat.zero_le _,rfl,lh (by simp)⟩
    case round =>
     obtain ⟨k,hk,rfl,HS⟩:=hrel
     by_cases hlt:k<xs.length
     ·obtain ⟨x,hx⟩:∃ x,xs[k]? = some x:=⟨_,gE hlt⟩
      obtain ⟨b1,o1,rfl,hb1,hc1⟩:=HX.out.2.2 (by omega)
      have hcx:=hc1 k x hx
      have hxz:=HZ.out x (mG hx)
      have HTK:Hid (xs.take (k+1)=xs.take k++[x]):=lh (by rw [List.take_add_one,hx];rfl)
      have HMX:=lh (mG hx)
      clear hc1 hx hb1
      cases hp:partB x with
      | false =>
       have hfb:(formB x==0)=true:=by rw [(form_zero x).2 hp];rfl
       have HP:=lh hp
       clear hp
       go_wp2_with (go_at_call 114;refine (formOf_any _ _ hxz).mono ?_;rintro e w' ⟨rfl,rfl⟩)
       go_ret
       exact ⟨ret_b (by rw [HB.out];exact (List.all_eq_false.2 ⟨x,HMX.out,by rw [HP.out];simp⟩).symm),ba _ _⟩
      | true =>
       have hfb:(formB x==0)=false:=by
        rw [beq_eq_false_iff_ne]
        intro e
        rw [(form_zero x).1 e] at hp
        cases hp
       have HP:=lh hp
       clear hp
       go_wp2_with (go_at_call 114;refine (formOf_any _ _ hxz).mono ?_;rintro e w' ⟨rfl,rfl⟩)
       go_round
       case rel=>exact ⟨k+1,by omega,by go_num,lh (by rw [HTK.out,List.all_append,HS.out];simp [HP.out])⟩
       case measure=>simp [intOf];omega
     ·obtain rfl:k=xs.length:=by omega
      go_wp2_with fail
      go_ret
      exact ⟨ret_b (by rw [HB.out,← HS.out,List.take_length]),ba _ _⟩
   | true =>
    go_enter Tryz.func124,Tryz.ntmps124
    go_wp2_with fail
    go_ret
    exact ⟨ret_b (by unfold bindOk;simp [HL.out]),ba _ _⟩
  | true =>
   cases q with
   | false =>
    have HB:Hid (bindOk xs false true=xs.all partB):=lh (by unfold bindOk;simp [HL.out])
    go_enter Tryz.func124,Tryz.ntmps124
    go_wp2_with fail
    go_loop [33] (fun i=>∃ k:Nat,k≤xs.length∧i=.int .i64 k∧Hid ((xs.take k).all partB=true)) (fun i=>xs.length-(intOf i).toNat)
    case atStart=>exact ⟨0,Nat.zero_le _,rfl,lh (by simp)⟩
    case round =>
     obtain ⟨k,hk,rfl,HS⟩:=hrel
     by_cases hlt:k<xs.length
     ·obtain ⟨x,hx⟩:∃ x,xs[k]? = some x:=⟨_,gE hlt⟩
      obtain ⟨b1,o1,rfl,hb1,hc1⟩:=HX.out.2.2 (by omega)
      have hcx:=hc1 k x hx
      have hxz:=HZ.out x (mG hx)
      have HTK:Hid (xs.take (k+1)=xs.take k++[x]):=lh (by rw [List.take_add_one,hx];rfl)
      have HMX:=lh (mG hx)
      clear hc1 hx hb1
      cases hp:partB x with
      | false =>
       have hfb:(formB x==0)=true:=by rw [(form_zero x).2 hp];rfl
       have HP:=lh hp
       clear hp
       go_wp2_with (go_at_call 114;refine (formOf_any _ _ hxz).mono ?_;rintro e w' ⟨rfl,rfl⟩)
       go_ret
       exact ⟨ret_b (by rw [HB.out];exact (List.all_eq_false.2 ⟨x,HMX.out,by rw [HP.out];simp⟩).symm),ba _ _⟩
      | true =>
       have hfb:(formB x==0)=false:=by
        rw [beq_eq_false_iff_ne]
        intro e
        rw [(form_zero x).1 e] at hp
        cases hp
       have HP:=lh hp
       clear hp
       go_wp2_with (go_at_call 114;refine (formOf_any _ _ hxz).mono ?_;rintro e w' ⟨rfl,rfl⟩)
       go_round
       case rel=>exact ⟨k+1,by omega,by go_num,lh (by rw [HTK.out,List.all_append,HS.out];simp [HP.out])⟩
       case measure=>simp [intOf];omega
     ·obtain rfl:k=xs.length:=by omega
      go_wp2_with fail
      go_ret
      exact ⟨ret_b (by rw [HB.out,← HS.out,List.take_length]),ba _ _⟩
   | true =>
    have HB:Hid (bindOk xs true true=xs.all partB):=lh (by unfold bindOk;simp [HL.out])
    go_enter Tryz.func124,Tryz.ntmps124
    go_wp2_with fail
    go_loop [33] (fun i=>∃ k:Nat,k≤xs.length∧i=.int .i64 k∧Hid ((xs.take k).all partB=true)) (fun i=>xs.length-(intOf i).toNat)
    case atStart=>exact ⟨0,Nat.zero_le _,rfl,lh (by simp)⟩
    case round =>
     obtain ⟨k,hk,rfl,HS⟩:=hrel
     by_cases hlt:k<xs.length
     ·obtain ⟨x,hx⟩:∃ x,xs[k]? = some x:=⟨_,gE hlt⟩
      obtain ⟨b1,o1,rfl,hb1,hc1⟩:=HX.out.2.2 (by omega)
      have hcx:=hc1 k x hx
      have hxz:=HZ.out x (mG hx)
      have HTK:Hid (xs.take (k+1)=xs.take k++[x]):=lh (by rw [List.take_add_one,hx];rfl)
      have HMX:=lh (mG hx)
      clear hc1 hx hb1
      cases hp:partB x with
      | false =>
       have hfb:(formB x==0)=true:=by rw [(form_zero x).2 hp];rfl
       have HP:=lh hp
       clear hp
       go_wp2_with (go_at_call 114;refine (formOf_any _ _ hxz).mono ?_;rintro e w' ⟨rfl,rfl⟩)
       go_ret
       exact ⟨ret_b (by rw [HB.out];exact (List.all_eq_false.2 ⟨x,HMX.out,by rw [HP.out];simp⟩).symm),ba _ _⟩
      | true =>
       have hfb:(formB x==0)=false:=by
        rw [beq_eq_false_iff_ne]
        intro e
        rw [(form_zero x).1 e] at hp
        cases hp
       have HP:=lh hp
       clear hp
       go_wp2_with (go_at_call 114;refine (formOf_any _ _ hxz).mono ?_;rintro e w' ⟨rfl,rfl⟩)
       go_round
       case rel=>exact ⟨k+1,by omega,by go_num,lh (by rw [HTK.out,List.all_append,HS.out];simp [HP.out])⟩
       case measure=>simp [intOf];omega
     ·obtain rfl:k=xs.length:=by omega
      go_wp2_with fail
      go_ret
      exact ⟨ret_b (by rw [HB.out,← HS.out,List.take_length]),ba _ _⟩
 ·have hn0:((xs.length:Int)==0)=false:=by rw [beq_eq_false_iff_ne];omega
  have hn1:((xs.length:Int)==1)=false:=by rw [beq_eq_false_iff_ne];omega
  have hm1:((xs.length:Int) != 1)=true:=by rw [bne_iff_ne];omega
  have HL:=lh hl
  clear hl
  cases rest with
  | false =>
   cases q with
   | false =>
    go_enter Tryz.func124,Tryz.ntmps124
    go_wp2_with fail
    go_ret
    exact ⟨ret_b (by unfold bindOk;simp [HL.out]),ba _ _⟩
   | true =>
    go_enter Tryz.func124,Tryz.ntmps124
    go_wp2_with fail
    go_ret
    exact ⟨ret_b (by unfold bindOk;simp [HL.out]),ba _ _⟩
  | true =>
   cases q with
   | false =>
    have HB:Hid (bindOk xs false true=xs.all partB):=lh (by unfold bindOk;simp [HL.out])
    go_enter Tryz.func124,Tryz.ntmps124
    go_wp2_with fail
    go_loop [33] (fun i=>∃ k:Nat,k≤xs.length∧i=.int .i64 k∧Hid ((xs.take k).all partB=true)) (fun i=>xs.length-(intOf i).toNat)
    case atStart=>exact ⟨0,Nat.zero_le _,rfl,lh (by simp)⟩
    case round =>
     obtain ⟨k,hk,rfl,HS⟩:=hrel
     by_cases hlt:k<xs.length
     ·obtain ⟨x,hx⟩:∃ x,xs[k]? = some x:=⟨_,gE hlt⟩
      obtain ⟨b1,o1,rfl,hb1,hc1⟩:=HX.out.2.2 (by omega)
      have hcx:=hc1 k x hx
      have hxz:=HZ.out x (mG hx)
      have HTK:Hid (xs.take (k+1)=xs.take k++[x]):=lh (by rw [List.take_add_one,hx];rfl)
      have HMX:=lh (mG hx)
      clear hc1 hx hb1
      cases hp:partB x with
      | false =>
       have hfb:(formB x==0)=true:=by rw [(form_zero x).2 hp];rfl
       have HP:=lh hp
       clear hp
       go_wp2_with (go_at_call 114;refine (formOf_any _ _ hxz).mono ?_;rintro e w' ⟨rfl,rfl⟩)
       go_ret
       exact ⟨ret_b (by rw [HB.out];exact (List.all_eq_false.2 ⟨x,HMX.out,by rw [HP.out];simp⟩).symm),ba _ _⟩
      | true =>
       have hfb:(formB x==0)=false:=by
        rw [beq_eq_false_iff_ne]
        intro e
        rw [(form_zero x).1 e] at hp
        cases hp
       have HP:=lh hp
       clear hp
       go_wp2_with (go_at_call 114;refine (formOf_any _ _ hxz).mono ?_;rintro e w' ⟨rfl,rfl⟩)
       go_round
       case rel=>exact ⟨k+1,by omega,by go_num,lh (by rw [HTK.out,List.all_append,HS.out];simp [HP.out])⟩
       case measure=>simp [intOf];omega
     ·obtain rfl:k=xs.length:=by omega
      go_wp2_with fail
      go_ret
      exact ⟨ret_b (by rw [HB.out,← HS.out,List.take_length]),ba _ _⟩
   | true =>
    have HB:Hid (bindOk xs true true=xs.all partB):=lh (by unfold bindOk;simp [HL.out])
    go_enter Tryz.func124,Tryz.ntmps124
    go_wp2_with fail
    go_loop [33] (fun i=>∃ k:Nat,k≤xs.length∧i=.int .i64 k∧Hid ((xs.take k).all partB=true)) (fun i=>xs.length-(intOf i).toNat)
    case atStart=>exact ⟨0,Nat.zero_le _,rfl,lh (by simp)⟩
    case round =>
     obtain ⟨k,hk,rfl,HS⟩:=hrel
     by_cases hlt:k<xs.length
     ·obtain ⟨x,hx⟩:∃ x,xs[k]? = some x:=⟨_,gE hlt⟩
      obtain ⟨b1,o1,rfl,hb1,hc1⟩:=HX.out.2.2 (by omega)
      have hcx:=hc1 k x hx
      have hxz:=HZ.out x (mG hx)
      have HTK:Hid (xs.take (k+1)=xs.take k++[x]):=lh (by rw [List.take_add_one,hx];rfl)
      have HMX:=lh (mG hx)
      clear hc1 hx hb1
      cases hp:partB x with
      | false =>
       have hfb:(formB x==0)=true:=by rw [(form_zero x).2 hp];rfl
       have HP:=lh hp
       clear hp
       go_wp2_with (go_at_call 114;refine (formOf_any _ _ hxz).mono ?_;rintro e w' ⟨rfl,rfl⟩)
       go_ret
       exact ⟨ret_b (by rw [HB.out];exact (List.all_eq_false.2 ⟨x,HMX.out,by rw [HP.out];simp⟩).symm),ba _ _⟩
      | true =>
       have hfb:(formB x==0)=false:=by
        rw [beq_eq_false_iff_ne]
        intro e
        rw [(form_zero x).1 e] at hp
        cases hp
       have HP:=lh hp
       clear hp
       go_wp2_with (go_at_call 114;refine (formOf_any _ _ hxz).mono ?_;rintro e w' ⟨rfl,rfl⟩)
       go_round
       case rel=>exact ⟨k+1,by omega,by go_num,lh (by rw [HTK.out,List.all_append,HS.out];simp [HP.out])⟩
       case measure=>simp [intOf];omega
     ·obtain rfl:k=xs.length:=by omega
      go_wp2_with fail
      go_ret
      exact ⟨ret_b (by rw [HB.out,← HS.out,List.take_length]),ba _ _⟩
open Go.RowKit
open Pm
def PS (W:World) (A:Option Addr) (c:Nat) (xs:List ByteArray) (r:Bool) (B:Option Addr) (d:Nat) (bs:List (List ByteArray×Bool)) (w:World):Prop :=
 PX w W.heap.size (.slice A xs.length c) (.bool r)∧PX w (W.heap.size+1) (.slice none 0 0) (.bool false)∧RT w A c xs∧BT w B d bs∧Below W.heap.size W w
theorem PS.kept (W:World) (A:Option Addr) (c:Nat) (xs:List ByteArray) (r:Bool) (B:Option Addr) (d:Nat) (bs:List (List ByteArray×Bool)):Kept (PS W A c xs r B d bs) :=
 (kept_px _ _ _).both ((kept_px _ _ _).both ((kept_rt _ _ _).both ((kept_bt _ _ _).both (kept_below _))))
theorem PS.enter {W:World} {A:Option Addr} {c:Nat} {xs:List ByteArray} {B:Option Addr} {d:Nat} {bs:List (List ByteArray×Bool)} (h:RT W A c xs) (k:BT W B d bs) (r:Bool) (T:TypeId) :
 At (PS W A c xs r B d bs) ((W.alloc (.cells #[.slice A xs.length c,.bool r] T)).alloc (.cells #[.slice none 0 0,.bool false] T)) :=
 ⟨PS.kept _ _ _ _ _ _ _ _,PX.fst W _ _ _ _ _,PX.snd W _ _ _ _ _,(h.below (ba _ _)).below (ba _ _),(k.below (ba _ _)).below (ba _ _),by repeat (first|exact Below.refl _ _|apply Below.drew|apply below_drewN|apply below_al)⟩
theorem PS.cells {W:World} {A:Option Addr} {c:Nat} {xs:List ByteArray} {r:Bool} {B:Option Addr} {d:Nat} {bs:List (List ByteArray×Bool)} {w:World} (h:At (PS W A c xs r B d bs) w) :
 PX w W.heap.size (.slice A xs.length c) (.bool r)∧PX w (W.heap.size+1) (.slice none 0 0) (.bool false):=⟨h.out.1,h.out.2.1⟩
theorem PS.x {W:World} {A:Option Addr} {c:Nat} {xs:List ByteArray} {r:Bool} {B:Option Addr} {d:Nat} {bs:List (List ByteArray×Bool)} {w:World} (h:At (PS W A c xs r B d bs) w):RT w A c xs:=h.out.2.2.1
theorem PS.y {W:World} {A:Option Addr} {c:Nat} {xs:List ByteArray} {r:Bool} {B:Option Addr} {d:Nat} {bs:List (List ByteArray×Bool)} {w:World} (h:At (PS W A c xs r B d bs) w):BT w B d bs:=h.out.2.2.2.1
theorem PS.b {W:World} {A:Option Addr} {c:Nat} {xs:List ByteArray} {r:Bool} {B:Option Addr} {d:Nat} {bs:List (List ByteArray×Bool)} {w:World} (h:At (PS W A c xs r B d bs) w):Below W.heap.size W w:=h.out.2.2.2.2
theorem sub_chk (A B:Option Addr) (c d:Nat) (xs:List ByteArray) (bs:List (List ByteArray×Bool)) (r:Bool) (w:World) (h:RT w A c xs) (k:BT w B d bs)
 (hsx:∀ x∈xs,x.size≤9223372036854775807) (hn:checkP xs r≠0) :
 Calls Tryz.prog 89 #[.agg #[.slice A xs.length c,.bool r],.slice B bs.length d] w (RetP w [] false (checkP xs r)):=by
 have HI:=PS.enter h k r 45
 have HK:=lh (fun W (h:RT W A c xs)=>kinds_any A c xs r W h hsx)
 have hnB:(checkP xs r != 0)=true:=by rw [bne_iff_ne];exact hn
 have hx1:=h.1
 have hx2:=h.2.1
 have hy1:=k.1
 have hy2:=k.2.1
 generalize checkP xs r=n at *
 clear h k hsx hn
 go_enter Tryz.func89,Tryz.ntmps89
 go_wp2_with (go_at_call 90;refine (HK.out _ (PS.x (HI.go bB))).mono ?_;rintro e w1 ⟨rfl,hb⟩;replace HI:=HI.go2 bB hb;clear hb;obtain ⟨⟨p1,p2,p3,p4,p5⟩,⟨r1,r2,r3,r4,r5⟩⟩:=PS.cells HI)
 refine bodyPost_ret (v:=.tuple #[.agg #[.slice none 0 0,.bool false],.int .i64 n]) (by simp [results,Tryz.results89,go_sem,r1,r2,r3,r4]) rfl ⟨none,0,rfl,RT.nil _ _ _ (by omega),?_⟩
 exact below_box (PS.b HI) (by omega) _ _
theorem sub_len (A B:Option Addr) (c d:Nat) (xs:List ByteArray) (bs:List (List ByteArray×Bool)) (r:Bool) (w:World) (h:RT w A c xs) (k:BT w B d bs)
 (hsx:∀ x∈xs,x.size≤9223372036854775807) (hn:checkP xs r=0) (hl:bs.length≠wildB stB xs r) :
 Calls Tryz.prog 89 #[.agg #[.slice A xs.length c,.bool r],.slice B bs.length d] w (RetP w [] false 33):=by
 have HI:=PS.enter h k r 45
 have HK:=lh (fun W (h:RT W A c xs)=>kinds_any A c xs r W h hsx)
 rw [(kindN_eq hn).1,(kindN_eq hn).2,hn] at HK
 have hx12:=(check_zero hn).2.1
 have hst:=count_le stB xs
 have hx1:=h.1
 have hx2:=h.2.1
 have hy1:=k.1
 have hy2:=k.2.1
 unfold wildB at hl
 generalize countB stB xs=st at *
 clear h k hsx hn
 cases r with
 | true =>
  have hl2:¬ (bs.length:Int)=(st:Int)+1:=by simp at hl;omega
  have hl3:((bs.length:Int) != (st:Int)+1)=true:=by rw [bne_iff_ne];exact hl2
  have hl4:((bs.length:Int)==(st:Int)+1)=false:=by rw [beq_eq_false_iff_ne];exact hl2
  clear hl hl2
  go_enter Tryz.func89,Tryz.ntmps89
  go_wp2_with (go_at_call 90;refine (HK.out _ (PS.x (HI.go bB))).mono ?_;rintro e w1 ⟨rfl,hb⟩;replace HI:=HI.go2 bB hb;clear hb;obtain ⟨⟨p1,p2,p3,p4,p5⟩,⟨r1,r2,r3,r4,r5⟩⟩:=PS.cells HI)
  refine bodyPost_ret (v:=.tuple #[.agg #[.slice none 0 0,.bool false],.int .i64 33]) (by simp [results,Tryz.results89,go_sem,r1,r2,r3,r4]) rfl ⟨none,0,rfl,RT.nil _ _ _ (by omega),?_⟩
  exact below_box (PS.b HI) (by omega) _ _
 | false =>
  have hl2:¬ (bs.length:Int)=(st:Int):=by simp at hl;omega
  have hl3:((bs.length:Int) != (st:Int))=true:=by rw [bne_iff_ne];exact hl2
  have hl4:((bs.length:Int)==(st:Int))=false:=by rw [beq_eq_false_iff_ne];exact hl2
  clear hl hl2
  go_enter Tryz.func89,Tryz.ntmps89
  go_wp2_with (go_at_call 90;refine (HK.out _ (PS.x (HI.go bB))).mono ?_;rintro e w1 ⟨rfl,hb⟩;replace HI:=HI.go2 bB hb;clear hb;obtain ⟨⟨p1,p2,p3,p4,p5⟩,⟨r1,r2,r3,r4,r5⟩⟩:=PS.cells HI)
  refine bodyPost_ret (v:=.tuple #[.agg #[.slice none 0 0,.bool false],.int .i64 33]) (by simp [results,Tryz.results89,go_sem,r1,r2,r3,r4]) rfl ⟨none,0,rfl,RT.nil _ _ _ (by omega),?_⟩
  exact below_box (PS.b HI) (by omega) _ _
def BO (st:Nat) (bs:List (List ByteArray×Bool)) (k:Nat):Prop:=∀ i p,i<k→bs[i]? = some p→bindOk p.1 p.2 (decide (i=st))=true
theorem BO.zero (st:Nat) (bs:List (List ByteArray×Bool)):BO st bs 0:=fun i p h=>by omega
theorem BO.step {st:Nat} {bs:List (List ByteArray×Bool)} {k:Nat} (h:BO st bs k) {q:List ByteArray×Bool} (hq:bs[k]? = some q) (hb:bindOk q.1 q.2 (decide (k=st))=true):BO st bs (k+1):=fun i p hi hp=>by
 rcases Nat.lt_or_ge i k with hlt|hge
 ·exact h i p hlt hp
 ·obtain rfl:i=k:=by omega
  obtain rfl:=Option.some.inj (hq.symm.trans hp)
  exact hb
theorem BO.no {st:Nat} {bs:List (List ByteArray×Bool)} {k:Nat} {q:List ByteArray×Bool} (hq:bs[k]? = some q) (hb:bindOk q.1 q.2 (decide (k=st))=false):¬ BO st bs bs.length:=fun h=>by
 have:=h k q (sI.1 hq).1 hq
 rw [hb] at this
 cases this
theorem sub_bad (A B:Option Addr) (c d:Nat) (xs:List ByteArray) (bs:List (List ByteArray×Bool)) (r:Bool) (w:World) (h:RT w A c xs) (k:BT w B d bs)
 (hsx:∀ x∈xs,x.size≤9223372036854775807) (hbz:∀ b∈bs,∀ x∈b.1,x.size≤9223372036854775807) (hn:checkP xs r=0) (hl:bs.length=wildB stB xs r) (hno:¬ BO (countB stB xs) bs bs.length) :
 Calls Tryz.prog 89 #[.agg #[.slice A xs.length c,.bool r],.slice B bs.length d] w (RetP w [] false 33):=by
 have HI:=PS.enter h k r 45
 have HK:=lh (fun W (h:RT W A c xs)=>kinds_any A c xs r W h hsx)
 rw [(kindN_eq hn).1,(kindN_eq hn).2,hn] at HK
 have hx12:=(check_zero hn).2.1
 have hx0:=(check_zero hn).1
 have hst:=count_le stB xs
 have HBZ:=lh hbz
 have hx1:=h.1
 have hx2:=h.2.1
 have hy1:=k.1
 have hy2:=k.2.1
 unfold wildB at hl
 have HNO:=lh hno
 generalize countB stB xs=st at *
 clear h k hsx hbz hn hno
 cases r with
 | true =>
  have hl2:(bs.length:Int)=(st:Int)+1:=by simp at hl;omega
  have hl3:((bs.length:Int) != (st:Int)+1)=false:=by rw [hl2];simp
  have hl4:((bs.length:Int)==(st:Int)+1)=true:=by rw [hl2];simp
  clear hl hl2
  go_enter Tryz.func89,Tryz.ntmps89
  go_wp2_with (go_at_call 90;refine (HK.out _ (PS.x (HI.go bB))).mono ?_;rintro e w1 ⟨rfl,hb⟩;replace HI:=HI.go2 bB hb;clear hb;obtain ⟨⟨p1,p2,p3,p4,p5⟩,⟨r1,r2,r3,r4,r5⟩⟩:=PS.cells HI)
  go_loopw [45] (fun i wr=>∃ k:Nat,k≤bs.length∧i=.int .i64 k∧At (PS w A c xs true B d bs) wr∧Hid (BO st bs k)) (fun i _=>bs.length-(intOf i).toNat)
  case atStart=>exact ⟨0,Nat.zero_le _,rfl,HI.go bB,lh (BO.zero _ _)⟩
  case round =>
   obtain ⟨k,hk,rfl,HJ,HO⟩:=hrel
   clear HI p1 p2 p3 p4 p5 r1 r2 r3 r4 r5
   obtain ⟨⟨p1,p2,p3,p4,p5⟩,⟨r1,r2,r3,r4,r5⟩⟩:=PS.cells HJ
   by_cases hlt:k<bs.length
   ·obtain ⟨⟨zs,q⟩,hp⟩:∃ p,bs[k]? = some p:=⟨_,gE hlt⟩
    obtain ⟨b1,o1,rfl,hb1,hc1⟩:=(PS.y HJ).2.2 (by omega)
    obtain ⟨C,e,x1,x2,x3⟩:=hc1 k _ hp
    have hlI:(k:Int)<(bs.length:Int):=by omega
    have hz1:=x3.1
    have hz2:=x3.2.1
    have HR:At (fun w=>RT w C e zs) wr:=⟨kept_rt _ _ _,x3⟩
    have HZS:=lh (HBZ.out _ (mG hp))
    have HP:=lh hp
    have hks:((k:Int)==(st:Int))=decide (k=st):=by
     by_cases e:k=st
     ·rw [e];simp
     ·rw [decide_eq_false e,beq_eq_false_iff_ne];omega
    clear hc1 hp x3
    cases hbo:bindOk zs q (decide (k=st)) with
    | true =>
     have HB:=lh (HO.out.step HP.out hbo)
     have HBI:=lh (fun w h=>isBinding_any C e zs q (decide (k=st)) w h HZS.out)
     rw [hbo] at HBI
     clear hbo
     generalize decide (k=st)=kk at *
     go_wp2_with (go_at_call 124;refine (HBI.out _ (HR.go bB).out).mono ?_;rintro e w3 ⟨rfl,hb⟩;replace HJ:=HJ.go2 bB hb;clear hb)
     go_roundw
     case rel=>exact ⟨k+1,by omega,by go_num,HJ,HB⟩
     case measure=>simp [intOf];omega
    | false =>
     have HB:=lh (BO.no HP.out hbo)
     have HBI:=lh (fun w h=>isBinding_any C e zs q (decide (k=st)) w h HZS.out)
     rw [hbo] at HBI
     clear hbo
     generalize decide (k=st)=kk at *
     go_wp2_with (go_at_call 124;refine (HBI.out _ (HR.go bB).out).mono ?_;rintro e w3 ⟨rfl,hb⟩;replace HJ:=HJ.go2 bB hb;clear hb p1 p2 p3 p4 p5 r1 r2 r3 r4 r5;obtain ⟨⟨p1,p2,p3,p4,p5⟩,⟨r1,r2,r3,r4,r5⟩⟩:=PS.cells HJ)
     refine bodyPost_ret (v:=.tuple #[.agg #[.slice none 0 0,.bool false],.int .i64 33]) (by simp [results,Tryz.results89,go_sem,r1,r2,r3,r4]) rfl ⟨none,0,rfl,RT.nil _ _ _ (by omega),?_⟩
     exact below_box (PS.b HJ) (by omega) _ _
   ·have HOK:Hid (BO st bs bs.length):=lh (by obtain rfl:k=bs.length:=by omega
                                              exact HO.out)
    exact absurd HOK.out HNO.out
 | false =>
  have hl2:(bs.length:Int)=(st:Int):=by simp at hl;omega
  have hl3:((bs.length:Int) != (st:Int))=false:=by rw [hl2];simp
  have hl4:((bs.length:Int)==(st:Int))=true:=by rw [hl2];simp
  clear hl hl2
  go_enter Tryz.func89,Tryz.ntmps89
  go_wp2_with (go_at_call 90;refine (HK.out _ (PS.x (HI.go bB))).mono ?_;rintro e w1 ⟨rfl,hb⟩;replace HI:=HI.go2 bB hb;clear hb;obtain ⟨⟨p1,p2,p3,p4,p5⟩,⟨r1,r2,r3,r4,r5⟩⟩:=PS.cells HI)
  go_loopw [45] (fun i wr=>∃ k:Nat,k≤bs.length∧i=.int .i64 k∧At (PS w A c xs false B d bs) wr∧Hid (BO st bs k)) (fun i _=>bs.length-(intOf i).toNat)
  case atStart=>exact ⟨0,Nat.zero_le _,rfl,HI.go bB,lh (BO.zero _ _)⟩
  case round =>
   obtain ⟨k,hk,rfl,HJ,HO⟩:=hrel
   clear HI p1 p2 p3 p4 p5 r1 r2 r3 r4 r5
   obtain ⟨⟨p1,p2,p3,p4,p5⟩,⟨r1,r2,r3,r4,r5⟩⟩:=PS.cells HJ
   by_cases hlt:k<bs.length
   ·obtain ⟨⟨zs,q⟩,hp⟩:∃ p,bs[k]? = some p:=⟨_,gE hlt⟩
    obtain ⟨b1,o1,rfl,hb1,hc1⟩:=(PS.y HJ).2.2 (by omega)
    obtain ⟨C,e,x1,x2,x3⟩:=hc1 k _ hp
    have hlI:(k:Int)<(bs.length:Int):=by omega
    have hz1:=x3.1
    have hz2:=x3.2.1
    have HR:At (fun w=>RT w C e zs) wr:=⟨kept_rt _ _ _,x3⟩
    have HZS:=lh (HBZ.out _ (mG hp))
    have HP:=lh hp
    have hks:((k:Int)==(st:Int))=decide (k=st):=by
     by_cases e:k=st
     ·rw [e];simp
     ·rw [decide_eq_false e,beq_eq_false_iff_ne];omega
    clear hc1 hp x3
    cases hbo:bindOk zs q (decide (k=st)) with
    | true =>
     have HB:=lh (HO.out.step HP.out hbo)
     have HBI:=lh (fun w h=>isBinding_any C e zs q (decide (k=st)) w h HZS.out)
     rw [hbo] at HBI
     clear hbo
     generalize decide (k=st)=kk at *
     go_wp2_with (go_at_call 124;refine (HBI.out _ (HR.go bB).out).mono ?_;rintro e w3 ⟨rfl,hb⟩;replace HJ:=HJ.go2 bB hb;clear hb)
     go_roundw
     case rel=>exact ⟨k+1,by omega,by go_num,HJ,HB⟩
     case measure=>simp [intOf];omega
    | false =>
     have HB:=lh (BO.no HP.out hbo)
     have HBI:=lh (fun w h=>isBinding_any C e zs q (decide (k=st)) w h HZS.out)
     rw [hbo] at HBI
     clear hbo
     generalize decide (k=st)=kk at *
     go_wp2_with (go_at_call 124;refine (HBI.out _ (HR.go bB).out).mono ?_;rintro e w3 ⟨rfl,hb⟩;replace HJ:=HJ.go2 bB hb;clear hb p1 p2 p3 p4 p5 r1 r2 r3 r4 r5;obtain ⟨⟨p1,p2,p3,p4,p5⟩,⟨r1,r2,r3,r4,r5⟩⟩:=PS.cells HJ)
     refine bodyPost_ret (v:=.tuple #[.agg #[.slice none 0 0,.bool false],.int .i64 33]) (by simp [results,Tryz.results89,go_sem,r1,r2,r3,r4]) rfl ⟨none,0,rfl,RT.nil _ _ _ (by omega),?_⟩
     exact below_box (PS.b HJ) (by omega) _ _
   ·have HOK:Hid (BO st bs bs.length):=lh (by obtain rfl:k=bs.length:=by omega
                                              exact HO.out)
    exact absurd HOK.out HNO.out
open Go.RowKit
open Pm
def hdP (p:List ByteArray×Bool):ByteArray:=p.1.headD ⟨#[]⟩
def SI (st:ByteArray→Bool) (tl:ByteArray→ByteArray) (xs:List ByteArray) (bs:List (List ByteArray×Bool)) (k:Nat) (ls:List (List ByteArray×Bool)) (done:List ByteArray):Prop :=
 done.length=k∧done++flC st tl (xs.drop k) (ls.map hdP)=flC st tl xs (bs.map hdP)∧ls=bs.drop (countB st (xs.take k))
theorem SI.start (st:ByteArray→Bool) (tl:ByteArray→ByteArray) (xs:List ByteArray) (bs:List (List ByteArray×Bool)):SI st tl xs bs 0 bs []:=⟨rfl,rfl,rfl⟩
theorem SI.part {st:ByteArray→Bool} {tl:ByteArray→ByteArray} {xs:List ByteArray} {bs ls:List (List ByteArray×Bool)} {k:Nat} {done:List ByteArray} {x:ByteArray} (h:SI st tl xs bs k ls done) (hx:xs[k]? = some x) (hs:st x=false) :
 SI st tl xs bs (k+1) ls (done++[x]):=by
 obtain ⟨h1,h2,h3⟩:=h
 have e:=drop_cons hx
 refine ⟨by simp [h1],?_,?_⟩
 ·rw [←h2,e]
  conv=>rhs;unfold flC
  rw [if_neg (by rw [hs];decide)]
  simp
 ·rw [h3,count_step hx,if_neg (by rw [hs];decide),Nat.add_zero]
theorem SI.star {st:ByteArray→Bool} {tl:ByteArray→ByteArray} {xs:List ByteArray} {bs ls:List (List ByteArray×Bool)} {k:Nat} {done:List ByteArray} {x:ByteArray} {p:List ByteArray×Bool} (h:SI st tl xs bs k (p::ls) done) (hx:xs[k]? = some x) (hs:st x=true) :
 SI st tl xs bs (k+1) ls (done++[hdP p++tl x]):=by
 obtain ⟨h1,h2,h3⟩:=h
 have e:=drop_cons hx
 refine ⟨by simp [h1],?_,?_⟩
 ·rw [←h2,e]
  conv=>rhs;unfold flC
  rw [if_pos hs]
  simp
 ·rw [count_step hx,if_pos hs,← List.drop_drop,← h3]
  rfl
theorem SI.done {st:ByteArray→Bool} {tl:ByteArray→ByteArray} {xs:List ByteArray} {bs ls:List (List ByteArray×Bool)} {k:Nat} {done:List ByteArray} (h:SI st tl xs bs k ls done) (hk:xs.length≤k) :
 done=flC st tl xs (bs.map hdP)∧ls=bs.drop (countB st xs):=by
 obtain ⟨h1,h2,h3⟩:=h
 rw [List.drop_eq_nil_of_le hk] at h2
 rw [List.take_of_length_le hk] at h3
 exact ⟨by rw [←h2];simp [flC],h3⟩
theorem SI.next {st:ByteArray→Bool} {tl:ByteArray→ByteArray} {xs:List ByteArray} {bs ls:List (List ByteArray×Bool)} {k:Nat} {done:List ByteArray} {x:ByteArray} (h:SI st tl xs bs k ls done) (hx:xs[k]? = some x) (hs:st x=true) (hl:countB st xs≤bs.length) :
 ∃ p ls',ls=p::ls'∧countB st (xs.take k)<countB st xs∧bs[countB st (xs.take k)]? = some p:=by
 have h1:=count_step (st:=st) hx
 rw [if_pos hs] at h1
 have h2:countB st (xs.take (k+1))≤countB st xs:=by
  unfold countB
  exact (List.Sublist.filter _ (List.take_sublist _ _)).length_le
 have h3:countB st (xs.take k)<bs.length:=by omega
 refine ⟨bs[countB st (xs.take k)],bs.drop (countB st (xs.take k)+1),?_,by omega,gE h3⟩
 rw [h.2.2,List.drop_eq_getElem_cons h3]
theorem bindOk_one {zs:List ByteArray} {q:Bool} (h:bindOk zs q false=true):∃ y,zs=[y]∧q=false∧partB y=true:=by
 unfold bindOk at h
 split at h
 ·cases h
 ·rename_i hn
  match zs,hn,h with
  | [],hn,h=>simp at hn
  | [y],hn,h=>cases q<;>simp at hn;exact ⟨y,rfl,rfl,by simpa using h⟩
  | a::b::l,hn,h=>simp at hn
theorem BO.one {st:Nat} {bs:List (List ByteArray×Bool)} (h:BO st bs bs.length) {j:Nat} (hj:j<st) {p:List ByteArray×Bool} (hp:bs[j]? = some p):∃ y,p=([y],false)∧partB y=true:=by
 have:=h j p (sI.1 hp).1 hp
 rw [decide_eq_false (by omega)] at this
 obtain ⟨y,h1,h2,h3⟩:=bindOk_one this
 exact ⟨y,by rw [←h1,← h2],h3⟩
theorem BT.nil' (w:World) (A:Option Addr) (c:Nat) (hc:c≤9223372036854775807):BT w A c []:=⟨Nat.zero_le _,hc,fun h=>absurd h (Nat.lt_irrefl 0)⟩
theorem BT.drop1 {w:World} {b o c:Nat} {p:List ByteArray×Bool} {ls:List (List ByteArray×Bool)} (h:BT w (some ⟨b,o,none⟩) c (p::ls)):BT w (some ⟨b,o+2,none⟩) (c-1) ls:=by
 have h1:=h.1
 simp at h1
 have h2:=h.2.1
 refine ⟨by omega,by omega,fun h0=>?_⟩
 obtain ⟨b',o',e,hlt,hc⟩:=h.2.2 (by simp)
 obtain ⟨rfl,rfl,-⟩:=Addr.mk.inj (Option.some.inj e)
 refine ⟨b,o+2,rfl,hlt,fun j q hq=>?_⟩
 obtain ⟨C,n,g1,g2,g3⟩:=hc (j+1) q (by simpa using hq)
 rw [show o+(j+1) * 2=o+2+j * 2 from by omega] at g1 g2
 exact ⟨C,n,g1,g2,g3⟩
end Go.Proofs.YtelkmeiepliecaaGreatDoor
