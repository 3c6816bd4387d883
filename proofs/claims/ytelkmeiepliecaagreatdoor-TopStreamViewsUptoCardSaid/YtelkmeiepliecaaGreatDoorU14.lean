/-
  Part 14 of the proof.
-/
import Derived.Test.YtelkmeiepliecaaGreatDoorU13
set_option linter.unusedSimpArgs false
set_option linter.unusedVariables false
set_option maxHeartbeats 16000000
namespace Go.Proofs.YtelkmeiepliecaaGreatDoor
open Go.RowKit
open Pm
def ruleE (xs:List ByteArray) (r:Bool) (ys:List ByteArray) (t:Bool):Int :=
 if checkP xs r≠0 then 40 else if checkP ys t≠0 then 41 else if countB stB xs=countB stB ys∧r=t then 0 else 42
theorem ruleE_zero {xs ys:List ByteArray} {r t:Bool}:ruleE xs r ys t=0↔checkP xs r=0∧checkP ys t=0∧countB stB xs=countB stB ys∧r=t:=by
 unfold ruleE
 by_cases h1:checkP xs r=0
 ·rw [if_neg (by simp [h1])]
  by_cases h2:checkP ys t=0
  ·rw [if_neg (by simp [h2])]
   by_cases h3:countB stB xs=countB stB ys∧r=t
   ·rw [if_pos h3]
    exact ⟨fun _=>⟨h1,h2,h3.1,h3.2⟩,fun _=>rfl⟩
   ·rw [if_neg h3]
    exact ⟨fun h=>(by cases h),fun h=>absurd ⟨h.2.2.1,h.2.2.2⟩ h3⟩
  ·rw [if_pos h2]
   exact ⟨fun h=>(by cases h),fun h=>absurd h.2.1 h2⟩
 ·rw [if_pos h1]
  exact ⟨fun h=>(by cases h),fun h=>absurd h.1 h1⟩
theorem ruleE_turn {xs ys:List ByteArray} {r t:Bool}:ruleE xs r ys t=0↔ruleE ys t xs r=0:=by
 rw [ruleE_zero,ruleE_zero]
 exact ⟨fun h=>⟨h.2.1,h.1,h.2.2.1.symm,h.2.2.2.symm⟩,fun h=>⟨h.2.1,h.1,h.2.2.1.symm,h.2.2.2.symm⟩⟩
def ruV (ex:Bool) (A:Option Addr) (c:Nat) (xs:List ByteArray) (r:Bool) (B:Option Addr) (d:Nat) (ys:List ByteArray) (t:Bool):Value :=
 .agg #[.bool ex,.slice A xs.length c,.bool r,.slice B ys.length d,.bool t]
def P5 (w:World) (g:Nat) (u0 u1 u2 u3 u4:Value):Prop :=
 w.cell? ⟨g,0,none⟩=some u0∧w.cell? ⟨g,1,none⟩=some u1∧w.cell? ⟨g,2,none⟩=some u2∧w.cell? ⟨g,3,none⟩=some u3∧w.cell? ⟨g,4,none⟩=some u4∧g<w.heap.size
theorem P5.new (w:World) (u0 u1 u2 u3 u4:Value) (T:TypeId):P5 (w.alloc (.cells #[u0,u1,u2,u3,u4] T)) w.heap.size u0 u1 u2 u3 u4 :=
 ⟨by simp [World.cell?_alloc_new],by simp [World.cell?_alloc_new],by simp [World.cell?_alloc_new],by simp [World.cell?_alloc_new],by simp [World.cell?_alloc_new],by simp⟩
theorem kept_p5 (g:Nat) (u0 u1 u2 u3 u4:Value):Kept (fun w=>P5 w g u0 u1 u2 u3 u4):=fun w w' h hb =>
 ⟨(hb.cell (p:=⟨g,0,none⟩) h.2.2.2.2.2).trans h.1,(hb.cell (p:=⟨g,1,none⟩) h.2.2.2.2.2).trans h.2.1,(hb.cell (p:=⟨g,2,none⟩) h.2.2.2.2.2).trans h.2.2.1,(hb.cell (p:=⟨g,3,none⟩) h.2.2.2.2.2).trans h.2.2.2.1,(hb.cell (p:=⟨g,4,none⟩) h.2.2.2.2.2).trans h.2.2.2.2.1,Nat.lt_of_lt_of_le h.2.2.2.2.2 hb.size⟩
def PR (W:World) (ex:Bool) (A:Option Addr) (c:Nat) (xs:List ByteArray) (r:Bool) (B:Option Addr) (d:Nat) (ys:List ByteArray) (t:Bool) (w:World):Prop :=
 P5 w W.heap.size (.bool ex) (.slice A xs.length c) (.bool r) (.slice B ys.length d) (.bool t)∧RT w A c xs∧RT w B d ys∧ML w∧Below W.heap.size W w
theorem PR.kept (W:World) (ex:Bool) (A:Option Addr) (c:Nat) (xs:List ByteArray) (r:Bool) (B:Option Addr) (d:Nat) (ys:List ByteArray) (t:Bool):Kept (PR W ex A c xs r B d ys t) :=
 (kept_p5 _ _ _ _ _ _).both ((kept_rt _ _ _).both ((kept_rt _ _ _).both (kept_ml.both (kept_below _))))
theorem PR.enter {W:World} {A:Option Addr} {c:Nat} {xs:List ByteArray} {B:Option Addr} {d:Nat} {ys:List ByteArray} (h:RT W A c xs) (k:RT W B d ys) (m:ML W) (ex r t:Bool) (T:TypeId) :
 At (PR W ex A c xs r B d ys t) (W.alloc (.cells #[.bool ex,.slice A xs.length c,.bool r,.slice B ys.length d,.bool t] T)) :=
 ⟨PR.kept _ _ _ _ _ _ _ _ _ _,P5.new W _ _ _ _ _ _,h.below (ba _ _),k.below (ba _ _),m.below (ba _ _),ba _ _⟩
theorem PR.cells {W:World} {ex:Bool} {A:Option Addr} {c:Nat} {xs:List ByteArray} {r:Bool} {B:Option Addr} {d:Nat} {ys:List ByteArray} {t:Bool} {w:World} (h:At (PR W ex A c xs r B d ys t) w) :
 P5 w W.heap.size (.bool ex) (.slice A xs.length c) (.bool r) (.slice B ys.length d) (.bool t):=h.out.1
theorem PR.x {W:World} {ex:Bool} {A:Option Addr} {c:Nat} {xs:List ByteArray} {r:Bool} {B:Option Addr} {d:Nat} {ys:List ByteArray} {t:Bool} {w:World} (h:At (PR W ex A c xs r B d ys t) w):RT w A c xs:=h.out.2.1
theorem PR.y {W:World} {ex:Bool} {A:Option Addr} {c:Nat} {xs:List ByteArray} {r:Bool} {B:Option Addr} {d:Nat} {ys:List ByteArray} {t:Bool} {w:World} (h:At (PR W ex A c xs r B d ys t) w):RT w B d ys:=h.out.2.2.1
theorem PR.m {W:World} {ex:Bool} {A:Option Addr} {c:Nat} {xs:List ByteArray} {r:Bool} {B:Option Addr} {d:Nat} {ys:List ByteArray} {t:Bool} {w:World} (h:At (PR W ex A c xs r B d ys t) w):ML w:=h.out.2.2.2.1
theorem PR.b {W:World} {ex:Bool} {A:Option Addr} {c:Nat} {xs:List ByteArray} {r:Bool} {B:Option Addr} {d:Nat} {ys:List ByteArray} {t:Bool} {w:World} (h:At (PR W ex A c xs r B d ys t) w):Below W.heap.size W w:=h.out.2.2.2.2
theorem five9 {xs:List ByteArray} (h:∀ x∈xs,x.size≤5000):∀ x∈xs,x.size≤9223372036854775807:=fun x hx=>by have:=h x hx;omega
theorem kind_zero {xs:List ByteArray} {r:Bool} (h:checkP xs r=0):kindN xs r=countB stB xs∧kindR xs r=r:=kindN_eq h
theorem ruleCheck_any (ex:Bool) (A B:Option Addr) (c d:Nat) (xs ys:List ByteArray) (r t:Bool) (w:World) (h:RT w A c xs) (k:RT w B d ys) (hm:ML w) (hsx:∀ x∈xs,x.size≤5000) (hsy:∀ x∈ys,x.size≤5000) :
 Calls Tryz.prog 60 #[ruV ex A c xs r B d ys t] w fun e w'=>e=.returned (.int .i64 (ruleE xs r ys t))∧Below w.heap.size w w':=by
 unfold ruV
 have HI:=PR.enter h k hm ex r t 57
 have HKX:=lh (fun w h=>kinds_any A c xs r w h (five9 hsx))
 have HKY:=lh (fun w h=>kinds_any B d ys t w h (five9 hsy))
 have HR:Hid (ruleE xs r ys t=if checkP xs r≠0 then 40 else if checkP ys t≠0 then 41 else if countB stB xs=countB stB ys∧r=t then 0 else 42):=lh rfl
 have hx1:=h.1
 have hx2:=h.2.1
 have hy1:=k.1
 have hy2:=k.2.1
 clear h k hm hsx hsy
 by_cases h1:checkP xs r=0
 ·rw [(kind_zero h1).1,(kind_zero h1).2,h1] at HKX
  by_cases h2:checkP ys t=0
  ·rw [(kind_zero h2).1,(kind_zero h2).2,h2] at HKY
   rw [h1,h2] at HR
   simp only [ne_eq,not_true_eq_false,if_false] at HR
   clear h1 h2
   generalize countB stB xs=n at *
   generalize countB stB ys=m at *
   by_cases h3:n=m
   ·subst h3
    by_cases h4:r=t
    ·subst h4
     simp at HR
     have hrr:(r != r)=false:=by simp
     rw [HR.out]
     go_enter Tryz.func60,Tryz.ntmps60
     go_wp2_with (first
      | (go_at_call_of 90 (Value.agg #[.slice A xs.length c,.bool r]);refine (HKX.out _ (PR.x (HI.go bB))).mono ?_;rintro e w1 ⟨rfl,hb⟩;replace HI:=HI.go2 bB hb;clear hb;obtain ⟨p1,p2,p3,p4,p5,p6⟩:=PR.cells HI)
      | (go_at_call_of 90 (Value.agg #[.slice B ys.length d,.bool r]);refine (HKY.out _ (PR.y (HI.go bB))).mono ?_;rintro e w1 ⟨rfl,hb⟩;replace HI:=HI.go2 bB hb;clear hb;obtain ⟨p1,p2,p3,p4,p5,p6⟩:=PR.cells HI))
     go_ret
     exact ⟨rfl,PR.b HI⟩
    ·have hrr:(r==t)=false:=by rw [beq_eq_false_iff_ne];exact h4
     simp [h4] at HR
     clear h4
     rw [HR.out]
     go_enter Tryz.func60,Tryz.ntmps60
     go_wp2_with (first
      | (go_at_call_of 90 (Value.agg #[.slice A xs.length c,.bool r]);refine (HKX.out _ (PR.x (HI.go bB))).mono ?_;rintro e w1 ⟨rfl,hb⟩;replace HI:=HI.go2 bB hb;clear hb;obtain ⟨p1,p2,p3,p4,p5,p6⟩:=PR.cells HI)
      | (go_at_call_of 90 (Value.agg #[.slice B ys.length d,.bool t]);refine (HKY.out _ (PR.y (HI.go bB))).mono ?_;rintro e w1 ⟨rfl,hb⟩;replace HI:=HI.go2 bB hb;clear hb;obtain ⟨p1,p2,p3,p4,p5,p6⟩:=PR.cells HI))
     go_ret
     exact ⟨rfl,PR.b HI⟩
   ·have hnm:((n:Int) != (m:Int))=true:=by rw [bne_iff_ne];omega
    simp [h3] at HR
    rw [HR.out]
    clear h3
    go_enter Tryz.func60,Tryz.ntmps60
    go_wp2_with (first
     | (go_at_call_of 90 (Value.agg #[.slice A xs.length c,.bool r]);refine (HKX.out _ (PR.x (HI.go bB))).mono ?_;rintro e w1 ⟨rfl,hb⟩;replace HI:=HI.go2 bB hb;clear hb;obtain ⟨p1,p2,p3,p4,p5,p6⟩:=PR.cells HI)
      | (go_at_call_of 90 (Value.agg #[.slice B ys.length d,.bool t]);refine (HKY.out _ (PR.y (HI.go bB))).mono ?_;rintro e w1 ⟨rfl,hb⟩;replace HI:=HI.go2 bB hb;clear hb;obtain ⟨p1,p2,p3,p4,p5,p6⟩:=PR.cells HI))
    go_ret
    exact ⟨rfl,PR.b HI⟩
  ·have hnB:(checkP ys t != 0)=true:=by rw [bne_iff_ne];exact h2
   rw [h1] at HR
   simp only [ne_eq,not_true_eq_false,if_false,h2,not_false_eq_true,if_true] at HR
   rw [HR.out]
   clear h1 h2
   generalize checkP ys t=n at *
   generalize kindN ys t=kn at *
   generalize kindR ys t=kr at *
   go_enter Tryz.func60,Tryz.ntmps60
   go_wp2_with (first
    | (go_at_call_of 90 (Value.agg #[.slice A xs.length c,.bool r]);refine (HKX.out _ (PR.x (HI.go bB))).mono ?_;rintro e w1 ⟨rfl,hb⟩;replace HI:=HI.go2 bB hb;clear hb;obtain ⟨p1,p2,p3,p4,p5,p6⟩:=PR.cells HI)
     | (go_at_call_of 90 (Value.agg #[.slice B ys.length d,.bool t]);refine (HKY.out _ (PR.y (HI.go bB))).mono ?_;rintro e w1 ⟨rfl,hb⟩;replace HI:=HI.go2 bB hb;clear hb;obtain ⟨p1,p2,p3,p4,p5,p6⟩:=PR.cells HI))
   go_ret
   exact ⟨rfl,PR.b HI⟩
 ·have hnB:(checkP xs r != 0)=true:=by rw [bne_iff_ne];exact h1
  simp only [ne_eq,h1,not_false_eq_true,if_true] at HR
  rw [HR.out]
  clear h1
  generalize checkP xs r=n at *
  generalize kindN xs r=kn at *
  generalize kindR xs r=kr at *
  go_enter Tryz.func60,Tryz.ntmps60
  go_wp2_with (go_at_call 90;refine (HKX.out _ (PR.x (HI.go bB))).mono ?_;rintro e w1 ⟨rfl,hb⟩;replace HI:=HI.go2 bB hb;clear hb)
  go_ret
  exact ⟨rfl,PR.b HI⟩
open Go.RowKit
open Pm
def mxB (xs:List ByteArray) (r:Bool) (s:ByteArray):List ByteArray:=if matchOk mpOk xs r s=true then capsB stB mpCap xs r s else []
def RetMX (w:World) (ys:List ByteArray) (b:Bool) (e:Ending) (w':World):Prop:=∃ A c,e=.returned (.tuple #[.slice A ys.length c,.bool b])∧RT w' A c ys∧Below w.heap.size w w'
theorem mx_one {xs:List ByteArray} {r:Bool} {s:ByteArray} {w w':World} {e:Ending} (h:RetC w (capsB stB mpCap xs r s) (matchOk mpOk xs r s) e w'):RetMX w (mxB xs r s) (matchOk mpOk xs r s) e w':=by
 unfold mxB
 cases hm:matchOk mpOk xs r s with
 | true =>
  obtain ⟨A,c,he,hr,hb⟩:=h.1 hm
  exact ⟨A,c,he,hr,hb⟩
 | false =>
  obtain ⟨he,hb⟩:=h.2 hm
  exact ⟨none,0,he,RT.nil _ _ _ (by omega),hb⟩
theorem mxB_size {xs:List ByteArray} {r:Bool} {s:ByteArray} (hs:s.size≤5000):∀ y∈mxB xs r s,y.size≤5000:=by
 unfold mxB
 split
 ·intro y hy
  have:=caps_size y hy
  omega
 ·intro y hy
  cases hy
def trO (xs:List ByteArray) (r:Bool) (ys:List ByteArray) (t:Bool) (s:ByteArray):Bool:=matchOk mpOk xs r s&&(fillE ys t (mxB xs r s)==0)
def trT (xs:List ByteArray) (r:Bool) (ys:List ByteArray) (t:Bool) (s:ByteArray):ByteArray:=if matchOk mpOk xs r s=true then fillT ys t (mxB xs r s) else ⟨#[]⟩
def fwdO (xs:List ByteArray) (r:Bool) (ys:List ByteArray) (t:Bool) (s:ByteArray):Bool:=(ruleE xs r ys t==0)&&trO xs r ys t s
def fwdT (xs:List ByteArray) (r:Bool) (ys:List ByteArray) (t:Bool) (s:ByteArray):ByteArray:=if ruleE xs r ys t=0 then trT xs r ys t s else ⟨#[]⟩
def RetSB (w:World) (s:ByteArray) (b:Bool) (e:Ending) (w':World):Prop:=e=.returned (.tuple #[.string s,.bool b])∧Below w.heap.size w w'
theorem translate_any (A B:Option Addr) (c d:Nat) (xs ys:List ByteArray) (r t:Bool) (s:ByteArray) (w:World) (h:RT w A c xs) (k:RT w B d ys) (hm:ML w) (hsx:∀ x∈xs,x.size≤5000) (hsy:∀ x∈ys,x.size≤5000) (hs:s.size≤5000) :
 Calls Tryz.prog 72 #[.agg #[.slice A xs.length c,.bool r],.agg #[.slice B ys.length d,.bool t],.string s] w (RetSB w (trT xs r ys t s) (trO xs r ys t s)):=by
 have HI:=P2.enter h k hm r t 45
 have HMA:=lh (fun w h m=>(match_any A c xs r s w h (five9 hsx) hs m).mono fun _ _ h=>mx_one h)
 have HFI:=lh (fun D e w h k m=>fill_any B D d e ys (mxB xs r s) t w h k m hsy (mxB_size hs))
 have HT:Hid (trT xs r ys t s=if matchOk mpOk xs r s=true then fillT ys t (mxB xs r s) else ⟨#[]⟩):=lh rfl
 have HO:Hid (trO xs r ys t s=(matchOk mpOk xs r s&&(fillE ys t (mxB xs r s)==0))):=lh rfl
 generalize trT xs r ys t s=T at *
 generalize trO xs r ys t s=O at *
 generalize mxB xs r s=cs at *
 generalize fillE ys t cs=n at *
 generalize fillT ys t cs=q at *
 have hx1:=h.1
 have hx2:=h.2.1
 have hy1:=k.1
 have hy2:=k.2.1
 clear h k hm hsx hsy hs
 cases ho:matchOk mpOk xs r s with
 | false =>
  rw [ho] at HMA HT HO
  simp only [Bool.false_and,Bool.false_eq_true,if_false] at HO HT
  rw [HO.out,HT.out]
  clear ho
  go_enter Tryz.func72,Tryz.ntmps72
  go_wp2_with (go_at_call 70;refine (HMA.out _ (P2.x (HI.go bB)) (P2.m (HI.go bB))).mono ?_;rintro e w3 ⟨D,m,rfl,hr,hb⟩;replace HI:=HI.go2 bB hb;clear hb;clear hr)
  go_ret2
  exact ⟨rfl,P2.b (HI.go bB)⟩
 | true =>
  rw [ho] at HMA HT HO
  simp only [Bool.true_and,if_true] at HO HT
  rw [HO.out,HT.out]
  clear ho
  go_enter Tryz.func72,Tryz.ntmps72
  go_wp2_with (first
   | (go_at_call 70;refine (HMA.out _ (P2.x (HI.go bB)) (P2.m (HI.go bB))).mono ?_;rintro e w3 ⟨D,m,rfl,hr,hb⟩;replace HI:=HI.go2 bB hb;clear hb;have HR:At (fun w=>RT w D m cs) w3:=⟨kept_rt _ _ _,hr⟩;have hr1:=hr.1;have hr2:=hr.2.1;clear hr;obtain ⟨p1,p2,q1,q2⟩:=P2.cells HI)
   | (go_at_call 100;refine (HFI.out _ _ _ (P2.y (HI.go bB)) (HR.go bB).out (P2.m (HI.go bB))).mono ?_;rintro e w4 ⟨rfl,hb⟩;replace HI:=HI.go2 bB hb;clear hb))
  go_ret2
  exact ⟨rfl,P2.b (HI.go bB)⟩
theorem forward_any (ex:Bool) (A B:Option Addr) (c d:Nat) (xs ys:List ByteArray) (r t:Bool) (s:ByteArray) (w:World) (h:RT w A c xs) (k:RT w B d ys) (hm:ML w) (hsx:∀ x∈xs,x.size≤5000) (hsy:∀ x∈ys,x.size≤5000) (hs:s.size≤5000) :
 Calls Tryz.prog 37 #[ruV ex A c xs r B d ys t,.string s] w (RetSB w (fwdT xs r ys t s) (fwdO xs r ys t s)):=by
 have HC:=lh (fun w h k m=>ruleCheck_any ex A B c d xs ys r t w h k m hsx hsy)
 have HTR:=lh (fun w h k m=>translate_any A B c d xs ys r t s w h k m hsx hsy hs)
 have HI:=PR.enter h k hm ex r t 57
 unfold ruV at HC ⊢
 have hx1:=h.1
 have hx2:=h.2.1
 have hy1:=k.1
 have hy2:=k.2.1
 clear h k hm hsx hsy hs
 by_cases h0:ruleE xs r ys t=0
 ·have e1:(fwdO xs r ys t s)=trO xs r ys t s:=by unfold fwdO;rw [h0];rfl
  have e2:(fwdT xs r ys t s)=trT xs r ys t s:=by unfold fwdT;rw [if_pos h0]
  rw [e1,e2]
  clear e1 e2
  rw [h0] at HC
  clear h0
  generalize trO xs r ys t s=O at *
  generalize trT xs r ys t s=T at *
  go_enter Tryz.func37,Tryz.ntmps37
  go_wp2_with (first
   | (go_at_call 60;refine (HC.out _ (PR.x (HI.go bB)) (PR.y (HI.go bB)) (PR.m (HI.go bB))).mono ?_;rintro e w3 ⟨rfl,hb⟩;replace HI:=HI.go2 bB hb;clear hb;obtain ⟨p1,p2,p3,p4,p5,p6⟩:=PR.cells HI)
   | (go_at_call 72;refine (HTR.out _ (PR.x (HI.go bB)) (PR.y (HI.go bB)) (PR.m (HI.go bB))).mono ?_;rintro e w4 ⟨rfl,hb⟩;replace HI:=HI.go2 bB hb;clear hb))
  go_ret2
  exact ⟨rfl,PR.b (HI.go bB)⟩
 ·have e1:(fwdO xs r ys t s)=false:=by unfold fwdO;rw [beq_eq_false_iff_ne.2 h0];rfl
  have e2:(fwdT xs r ys t s)=⟨#[]⟩:=by unfold fwdT;rw [if_neg h0]
  rw [e1,e2]
  clear e1 e2
  have hnB:(ruleE xs r ys t != 0)=true:=by rw [bne_iff_ne];exact h0
  generalize ruleE xs r ys t=n at *
  clear h0
  go_enter Tryz.func37,Tryz.ntmps37
  go_wp2_with (go_at_call 60;refine (HC.out _ (PR.x (HI.go bB)) (PR.y (HI.go bB)) (PR.m (HI.go bB))).mono ?_;rintro e w3 ⟨rfl,hb⟩;replace HI:=HI.go2 bB hb;clear hb)
  go_ret2
  exact ⟨rfl,PR.b (HI.go bB)⟩
open Go.RowKit
open Pm
def RetC1 (w:World) (xs:List ByteArray) (e:Ending) (w':World):Prop:=∃ B d,e=.returned (.slice B xs.length d)∧RT w' B d xs∧Below w.heap.size w w'
theorem clone_all (A:Option Addr) (c:Nat) (xs:List ByteArray) (w:World) (h:RT w A c xs) (hl:xs.length≤100000) :
 Calls Tryz.prog 85 #[.slice A xs.length c] w (RetC1 w xs):=by
 have h1:=h.1
 have h2:=h.2.1
 cases A with
 | none =>
  have hx:xs=[]:=by
   rcases Nat.eq_zero_or_pos xs.length with h0|h0
   ·exact List.eq_nil_of_length_eq_zero h0
   ·obtain ⟨b,o,e,_⟩:=h.2.2 h0
    cases e
  subst hx
  clear h
  have hq:=fun (W:World)=>Lib.run_eql_slice_nil (P:=Tryz.prog) W 25 9 none 0 c 0 0 Tryz.underlying25
  simp only [List.length_nil]
  go_enter Tryz.func85,Tryz.ntmps85
  go_wp2_with fail
  go_ret
  exact ⟨none,0,rfl,RT.nil _ _ _ (by omega),Below.refl _ _⟩
 | some a =>
  have HX:=lh h
  clear h
  have hq:=fun (W:World)=>Lib.run_eql_slice_nil (P:=Tryz.prog) W 25 9 (some a) xs.length c 0 0 Tryz.underlying25
  go_enter Tryz.func85,Tryz.ntmps85
  go_wp2_with (at_builtin;(refine wpList_append_texts rfl _ _ rfl w.heap.size _ [] xs _ c rfl rfl (OT.made w _ (Nat.le_refl _)) (HX.out.below (ba _ _)) (by simp;omega) (by simp) ?_;intro v1 w3 hown hg _;have HBL:=lh ((ba w _).grown hg (by simp) (fun k hk=>by cases hk;exact Nat.le_refl _));rw [List.nil_append] at hown;obtain ⟨B,d,rfl,hrt⟩:=hown.read;have HRT:=lh hrt;clear hown hg hrt))
  go_ret
  exact ⟨B,d,rfl,HRT.out,HBL.out⟩
def RetP1 (w:World) (xs:List ByteArray) (r:Bool) (e:Ending) (w':World):Prop:=∃ B d,e=.returned (.agg #[.slice B xs.length d,.bool r])∧RT w' B d xs∧Below w.heap.size w w'
def PV (W:World) (A:Option Addr) (c:Nat) (xs:List ByteArray) (r:Bool) (w:World):Prop :=
 PX w W.heap.size (.slice A xs.length c) (.bool r)∧PX w (W.heap.size+1) (.slice none 0 0) (.bool false)∧RT w A c xs∧Below W.heap.size W w
theorem PV.kept (W:World) (A:Option Addr) (c:Nat) (xs:List ByteArray) (r:Bool):Kept (PV W A c xs r) :=
 (kept_px _ _ _).both ((kept_px _ _ _).both ((kept_rt _ _ _).both (kept_below _)))
theorem PV.enter {W:World} {A:Option Addr} {c:Nat} {xs:List ByteArray} (h:RT W A c xs) (r:Bool) (T:TypeId) :
 At (PV W A c xs r) ((W.alloc (.cells #[.slice A xs.length c,.bool r] T)).alloc (.cells #[.slice none 0 0,.bool false] T)) :=
 ⟨PV.kept _ _ _ _ _,PX.fst W _ _ _ _ _,PX.snd W _ _ _ _ _,(h.below (ba _ _)).below (ba _ _),by repeat (first|exact Below.refl _ _|apply Below.drew|apply below_drewN|apply below_al)⟩
theorem PV.cells {W:World} {A:Option Addr} {c:Nat} {xs:List ByteArray} {r:Bool} {w:World} (h:At (PV W A c xs r) w):w.cell? ⟨W.heap.size,0,none⟩=some (.slice A xs.length c)∧w.cell? ⟨W.heap.size,1,none⟩=some (.bool r):=⟨h.out.1.1,h.out.1.2.1⟩
theorem PV.res {W:World} {A:Option Addr} {c:Nat} {xs:List ByteArray} {r:Bool} {w:World} (h:At (PV W A c xs r) w):PX w (W.heap.size+1) (.slice none 0 0) (.bool false):=h.out.2.1
theorem PV.x {W:World} {A:Option Addr} {c:Nat} {xs:List ByteArray} {r:Bool} {w:World} (h:At (PV W A c xs r) w):RT w A c xs:=h.out.2.2.1
theorem PV.b {W:World} {A:Option Addr} {c:Nat} {xs:List ByteArray} {r:Bool} {w:World} (h:At (PV W A c xs r) w):Below W.heap.size W w:=h.out.2.2.2
theorem pcopy_any (A:Option Addr) (c:Nat) (xs:List ByteArray) (r:Bool) (w:World) (h:RT w A c xs) (hl:xs.length≤100000) :
 Calls Tryz.prog 54 #[.agg #[.slice A xs.length c,.bool r]] w (RetP1 w xs r):=by
 have HI:=PV.enter h r 45
 have HCL:=lh (fun w h=>clone_all A c xs w h hl)
 have h1:=h.1
 have h2:=h.2.1
 clear h
 have HR:=lh True.intro
 go_enter Tryz.func54,Tryz.ntmps54
 go_wp2_with fail
 go_region_held3 (fun w'=>w'.cell? ⟨w.heap.size,0,none⟩=some (.slice A xs.length c)∧w'.cell? ⟨w.heap.size,1,none⟩=some (.bool r))
  (first|(refine PV.cells (HI.go ?_)<;>(repeat (first|exact Below.refl _ _|apply Below.drew|apply below_drewN|apply below_al))<;>done)|go_keep)
  ((go_at_call 85;refine (HCL.out _ (PV.x (HI.go bB))).mono ?_;rintro e w3 ⟨B,d,rfl,hr,hb⟩;replace HI:=HI.go2 bB hb;have HRT:=lh hr;obtain ⟨q1,q2,q3,q4,q5⟩:=PV.res HI;obtain ⟨a1,a2⟩:=PV.cells HI;clear hr hb))
 all_goals go_wp2_with fail
 all_goals
  refine bodyPost_ret (v:=.agg #[.slice B xs.length d,.bool r]) (by simp [results,Tryz.results54,go_sem,q1,q2,q3,q4]) rfl ⟨B,d,rfl,HRT.out.box (PV.res HI) (slice_ns _ _ _) (bool_ns _) _ _,below_box (PV.b HI) (by omega) _ _⟩
def F5 (w:World) (g:Nat):Prop:=w.frozen? ⟨g,0,none⟩=false∧w.frozen? ⟨g,1,none⟩=false∧w.frozen? ⟨g,2,none⟩=false∧w.frozen? ⟨g,3,none⟩=false∧w.frozen? ⟨g,4,none⟩=false∧g<w.heap.size
theorem kept_f5 (g:Nat):Kept (fun w=>F5 w g):=fun w w' h hb =>
 ⟨(hb.frozen (p:=⟨g,0,none⟩) h.2.2.2.2.2).trans h.1,(hb.frozen (p:=⟨g,1,none⟩) h.2.2.2.2.2).trans h.2.1,(hb.frozen (p:=⟨g,2,none⟩) h.2.2.2.2.2).trans h.2.2.1,(hb.frozen (p:=⟨g,3,none⟩) h.2.2.2.2.2).trans h.2.2.2.1,(hb.frozen (p:=⟨g,4,none⟩) h.2.2.2.2.2).trans h.2.2.2.2.1,Nat.lt_of_lt_of_le h.2.2.2.2.2 hb.size⟩
theorem F5.new (w:World) (u0 u1 u2 u3 u4:Value) (T:TypeId):F5 (w.alloc (.cells #[u0,u1,u2,u3,u4] T)) w.heap.size :=
 ⟨by simp [World.frozen?_alloc_new],by simp [World.frozen?_alloc_new],by simp [World.frozen?_alloc_new],by simp [World.frozen?_alloc_new],by simp [World.frozen?_alloc_new],by simp⟩
theorem P5.snd (w:World) (o:Obj) (u0 u1 u2 u3 u4:Value) (T:TypeId):P5 ((w.alloc o).alloc (.cells #[u0,u1,u2,u3,u4] T)) (w.heap.size+1) u0 u1 u2 u3 u4:=by
 have:=P5.new (w.alloc o) u0 u1 u2 u3 u4 T
 simpa using this
theorem F5.snd (w:World) (o:Obj) (u0 u1 u2 u3 u4:Value) (T:TypeId):F5 ((w.alloc o).alloc (.cells #[u0,u1,u2,u3,u4] T)) (w.heap.size+1):=by
 have:=F5.new (w.alloc o) u0 u1 u2 u3 u4 T
 simpa using this
def set5 (w:World) (g:Nat) (a b c d e:Value):World:=((((w.setCell ⟨g,0,none⟩ a).setCell ⟨g,1,none⟩ b).setCell ⟨g,2,none⟩ c).setCell ⟨g,3,none⟩ d).setCell ⟨g,4,none⟩ e
theorem RT.set5 {w:World} {A:Option Addr} {n g:Nat} {xs:List ByteArray} {u0 u1 u2 u3 u4:Value} (h:RT w A n xs) (hp:P5 w g u0 u1 u2 u3 u4) (h0:∀ x,u0≠.string x) (h1:∀ x,u1≠.string x) (h2:∀ x,u2≠.string x) (h3:∀ x,u3≠.string x) (h4:∀ x,u4≠.string x) (a b c d e:Value):RT (set5 w g a b c d e) A n xs:=by
 have ne:∀ (W:World) (i j:Nat) (v:Value),i≠j→(W.setCell ⟨g,i,none⟩ v).cell? ⟨g,j,none⟩=W.cell? ⟨g,j,none⟩:=fun W i j v hij=>World.cell?_setCell_other _ _ _ _ (by simp [hij.symm])
 unfold Proofs.YtelkmeiepliecaaGreatDoor.set5
 refine RT.setCell (RT.setCell (RT.setCell (RT.setCell (RT.setCell h hp.1 h0 a) ?_ h1 b) ?_ h2 c) ?_ h3 d) ?_ h4 e
 ·rw [ne _ _ _ _ (by decide)];exact hp.2.1
 ·rw [ne _ _ _ _ (by decide),ne _ _ _ _ (by decide)];exact hp.2.2.1
 ·rw [ne _ _ _ _ (by decide),ne _ _ _ _ (by decide),ne _ _ _ _ (by decide)];exact hp.2.2.2.1
 ·rw [ne _ _ _ _ (by decide),ne _ _ _ _ (by decide),ne _ _ _ _ (by decide),ne _ _ _ _ (by decide)];exact hp.2.2.2.2.1
theorem below_set5 {B g:Nat} {w w':World} (h:Below B w w') (hg:B≤g) (a b c d e:Value):Below B w (set5 w' g a b c d e) :=
 ((((h.setCell (p:=⟨g,0,none⟩) hg a).setCell (p:=⟨g,1,none⟩) hg b).setCell (p:=⟨g,2,none⟩) hg c).setCell (p:=⟨g,3,none⟩) hg d).setCell (p:=⟨g,4,none⟩) hg e
def PT (W:World) (ex:Bool) (A:Option Addr) (c:Nat) (xs:List ByteArray) (r:Bool) (B:Option Addr) (d:Nat) (ys:List ByteArray) (t:Bool) (w:World):Prop :=
 P5 w (W.heap.size+1) (.bool false) (.slice none 0 0) (.bool false) (.slice none 0 0) (.bool false)∧F5 w (W.heap.size+1)∧PR W ex A c xs r B d ys t w
theorem PT.kept (W:World) (ex:Bool) (A:Option Addr) (c:Nat) (xs:List ByteArray) (r:Bool) (B:Option Addr) (d:Nat) (ys:List ByteArray) (t:Bool):Kept (PT W ex A c xs r B d ys t) :=
 (kept_p5 _ _ _ _ _ _).both ((kept_f5 _).both (PR.kept _ _ _ _ _ _ _ _ _ _))
theorem PT.enter {W:World} {A:Option Addr} {c:Nat} {xs:List ByteArray} {B:Option Addr} {d:Nat} {ys:List ByteArray} (h:RT W A c xs) (k:RT W B d ys) (m:ML W) (ex r t:Bool) (T:TypeId) :
 At (PT W ex A c xs r B d ys t) ((W.alloc (.cells #[.bool ex,.slice A xs.length c,.bool r,.slice B ys.length d,.bool t] T)).alloc (.cells #[.bool false,.slice none 0 0,.bool false,.slice none 0 0,.bool false] T)) :=
 ⟨PT.kept _ _ _ _ _ _ _ _ _ _,P5.snd _ _ _ _ _ _ _ _,F5.snd _ _ _ _ _ _ _ _,((PR.enter h k m ex r t T).go (ba _ _)).out⟩
theorem PT.pr {W:World} {ex:Bool} {A:Option Addr} {c:Nat} {xs:List ByteArray} {r:Bool} {B:Option Addr} {d:Nat} {ys:List ByteArray} {t:Bool} {w:World} (h:At (PT W ex A c xs r B d ys t) w):At (PR W ex A c xs r B d ys t) w:=⟨PR.kept _ _ _ _ _ _ _ _ _ _,h.out.2.2⟩
theorem PT.cells {W:World} {ex:Bool} {A:Option Addr} {c:Nat} {xs:List ByteArray} {r:Bool} {B:Option Addr} {d:Nat} {ys:List ByteArray} {t:Bool} {w:World} (h:At (PT W ex A c xs r B d ys t) w) :
 w.cell? ⟨W.heap.size,0,none⟩=some (.bool ex)∧w.cell? ⟨W.heap.size,1,none⟩=some (.slice A xs.length c)∧w.cell? ⟨W.heap.size,2,none⟩=some (.bool r)∧w.cell? ⟨W.heap.size,3,none⟩=some (.slice B ys.length d)∧w.cell? ⟨W.heap.size,4,none⟩=some (.bool t) :=
 ⟨h.out.2.2.1.1,h.out.2.2.1.2.1,h.out.2.2.1.2.2.1,h.out.2.2.1.2.2.2.1,h.out.2.2.1.2.2.2.2.1⟩
def RetR (w:World) (ex:Bool) (xs:List ByteArray) (r:Bool) (ys:List ByteArray) (t:Bool) (e:Ending) (w':World):Prop :=
 ∃ A c B d,e=.returned (ruV ex A c xs r B d ys t)∧RT w' A c xs∧RT w' B d ys∧Below w.heap.size w w'
theorem turn_any (ex:Bool) (A B:Option Addr) (c d:Nat) (xs ys:List ByteArray) (r t:Bool) (w:World) (h:RT w A c xs) (k:RT w B d ys) (hm:ML w) (hlx:xs.length≤100000) (hly:ys.length≤100000) :
 Calls Tryz.prog 84 #[ruV ex A c xs r B d ys t] w (RetR w ex ys t xs r):=by
 have HI:=PT.enter h k hm ex r t 57
 have HCP:=lh (fun A c xs r w h hl=>pcopy_any A c xs r w h hl)
 unfold ruV
 have hx1:=h.1
 have hx2:=h.2.1
 have hy1:=k.1
 have hy2:=k.2.1
 clear h k hm
 have tok1:True:=trivial
 go_enter Tryz.func84,Tryz.ntmps84
 go_wp2_with fail
 go_region_held3 (fun w'=>(w'.cell? ⟨w.heap.size,0,none⟩=some (.bool ex)∧w'.cell? ⟨w.heap.size,1,none⟩=some (.slice A xs.length c)∧w'.cell? ⟨w.heap.size,2,none⟩=some (.bool r)∧w'.cell? ⟨w.heap.size,3,none⟩=some (.slice B ys.length d)∧w'.cell? ⟨w.heap.size,4,none⟩=some (.bool t)))
  (first|(refine PT.cells (HI.go ?_)<;>(repeat (first|exact Below.refl _ _|apply Below.drew|apply below_drewN|apply below_al))<;>done)|go_keep)
  (first
   | (go_at_call 54;have _t:=tok1;refine (HCP.out _ _ _ _ _ (by first|exact PR.x (PT.pr (HI.go bB))|exact PR.y (PT.pr (HI.go bB))) (by first|exact hlx|exact hly)).mono ?_;rintro e w3 ⟨B1,d1,rfl,hr,hb⟩;replace HI:=HI.go2 bB hb;have HR1:=lh hr;clear tok1 _t hr hb)
   | (go_at_call 54;refine (HCP.out _ _ _ _ _ (by first|exact PR.x (PT.pr (HI.go bB))|exact PR.y (PT.pr (HI.go bB))) (by first|exact hlx|exact hly)).mono ?_;rintro e w4 ⟨B2,d2,rfl,hr,hb⟩;replace HI:=HI.go2 bB hb;have HR2:=lh hr;have HR3:=lh (HR1.out.below (below_two bB hb));have HP:=lh HI.out.1;have HF:=lh HI.out.2.1;obtain ⟨p0,p1,p2,p3,p4,p5⟩:=HP.out;obtain ⟨f0,f1,f2,f3,f4,f5⟩:=HF.out;obtain ⟨a0,a1,a2,a3,a4⟩:=PT.cells HI;clear hr hb))
 all_goals go_wp2_with fail
 all_goals
  first
  | (refine bodyPost_ret (v:=.agg #[.bool ex,.slice B1 ys.length d1,.bool t,.slice B2 xs.length d2,.bool r]) (by simp [results,Tryz.results84,go_sem,p0,p1,p2,p3,p4,f0,f1,f2,f3,f4]) rfl ⟨B1,d1,B2,d2,rfl,HR3.out.set5 HP.out (bool_ns _) (slice_ns _ _ _) (bool_ns _) (slice_ns _ _ _) (bool_ns _) _ _ _ _ _,HR2.out.set5 HP.out (bool_ns _) (slice_ns _ _ _) (bool_ns _) (slice_ns _ _ _) (bool_ns _) _ _ _ _ _,below_set5 (PR.b (PT.pr HI)) (by omega) _ _ _ _ _⟩)
  | (refine bodyPost_ret (v:=.agg #[.bool ex,.slice B2 ys.length d2,.bool t,.slice B1 xs.length d1,.bool r]) (by simp [results,Tryz.results84,go_sem,p0,p1,p2,p3,p4,f0,f1,f2,f3,f4]) rfl ⟨B2,d2,B1,d1,rfl,HR2.out.set5 HP.out (bool_ns _) (slice_ns _ _ _) (bool_ns _) (slice_ns _ _ _) (bool_ns _) _ _ _ _ _,HR3.out.set5 HP.out (bool_ns _) (slice_ns _ _ _) (bool_ns _) (slice_ns _ _ _) (bool_ns _) _ _ _ _ _,below_set5 (PR.b (PT.pr HI)) (by omega) _ _ _ _ _⟩)
open Go.RowKit
open Pm
theorem ins_self (a:ByteArray):insB a a=true:=by unfold insB;rw [if_pos rfl]
theorem ins_anti {a b:ByteArray} (h:insB a b=true) (k:insB b a=true):a=b:=by
 by_cases e:a=b
 ·exact e
 ·have hb:stB b=true:=by
   cases hs:stB b with
   | true=>rfl
   | false=>exact absurd (ins_lit hs h) e
  have ha:stB a=true:=by
   cases hs:stB a with
   | true=>rfl
   | false=>exact absurd (ins_lit hs k).symm e
  unfold insB at h k
  rw [if_neg e,if_neg (by rw [hb];decide),if_pos ha,suf_iff] at h
  rw [if_neg (fun e2=>e e2.symm),if_neg (by rw [ha];decide),if_pos hb,suf_iff] at k
  have e1:(tlB a).data.toList=(tlB b).data.toList:=by
   obtain ⟨c,hc⟩:=h
   have h1:=k.length_le
   have h2:c=[]:=by
    have:=congrArg List.length hc
    rw [List.length_append] at this
    exact List.eq_nil_of_length_eq_zero (by omega)
   rw [h2,List.nil_append] at hc
   exact hc.symm
  rw [←mkB_back a,← mkB_back b,star_head ha,star_head hb,e1]
theorem nrw_in {a b:ByteArray} (h:nrwOk a b=true):insB (nrw a b) a=true∧insB (nrw a b) b=true:=by
 unfold nrwOk at h
 unfold nrw
 cases h1:insB a b with
 | true=>rw [if_pos rfl];exact ⟨ins_self a,h1⟩
 | false =>
  rw [h1,Bool.false_or] at h
  rw [if_neg (by decide),if_pos h]
  exact ⟨h,ins_self b⟩
theorem lensIn_iff {n m:Nat} {r t:Bool}:lensIn n m r t=true↔(m≤n∧(t=false→r=false∧n=m)∧(t=true→n=m→r=true)):=by
 unfold lensIn
 cases t<;>cases r<;>simp<;>omega
theorem mz_within {us vs:List ByteArray} {r t:Bool} (hl:vs.length≤us.length) (hu:checkP us r=0) (hv:checkP vs t=0) (hco:(vs.length<us.length→t=true)∧(vs.length=us.length→r=t)) (h:okOf nrwOk (us.zip vs)=true) :
 withinOk insB (mzAll us vs) us (r&&t) r=true∧withinOk insB (mzAll us vs) vs (r&&t) t=true:=by
 have hck:=(mz_means (s:=⟨#[]⟩) hl hu hv hco h).1
 have hlen:=mzAll_len hl
 unfold withinOk insideOk
 rw [hck,hu,hv]
 simp only [BEq.rfl,Bool.true_and,Bool.and_eq_true]
 refine ⟨⟨?_,ok_iff.2 fun k z x hz hx=>?_⟩,⟨?_,ok_iff.2 fun k z y hz hy=>?_⟩⟩
 ·rw [hlen]
  rcases Nat.lt_or_ge vs.length us.length with g|g
  ·rw [hco.1 g]
   unfold lensIn
   cases r<;>simp
  ·have e:vs.length=us.length:=by omega
   rw [hco.2 e]
   unfold lensIn
   cases t<;>simp
 ·obtain ⟨x',hx',e⟩:=mzAll_back hl hz
  obtain rfl:=Option.some.inj (hx'.symm.trans hx)
  cases hy:vs[k]? with
  | none=>rw [hy] at e;subst e;exact ins_self _
  | some y =>
   rw [hy] at e
   have e2:z=nrw x' y:=e
   rw [e2]
   exact (nrw_in (ok_iff.1 h k x' y hx hy)).1
 ·rw [hlen]
  rcases Nat.lt_or_ge vs.length us.length with g|g
  ·rw [hco.1 g]
   rw [lensIn_iff]
   exact ⟨by omega,fun e=>(by cases e),fun _ e=>by omega⟩
  ·have e:vs.length=us.length:=by omega
   rw [hco.2 e,e]
   unfold lensIn
   cases t<;>simp
 ·have hk:k<us.length:=by have:=(sI.1 hz).1;omega
  obtain ⟨x,hx⟩:∃ x,us[k]? = some x:=⟨_,gE hk⟩
  have e:=mzAll_get hl hx
  rw [hz,hy] at e
  have e2:z=nrw x y:=Option.some.inj e
  rw [e2]
  exact (nrw_in (ok_iff.1 h k x y hx hy)).2
theorem meet_within {xs ys:List ByteArray} {r t:Bool} (h:meetOk xs ys r t=true):withinOk insB (meetL xs ys) xs (r&&t) r=true∧withinOk insB (meetL xs ys) ys (r&&t) t=true:=by
 unfold meetOk at h
 unfold meetL
 rw [Bool.and_eq_true,Bool.and_eq_true,Bool.and_eq_true,beq_iff_eq,beq_iff_eq] at h
 obtain ⟨⟨⟨hx,hy⟩,hc⟩,ho⟩:=h
 by_cases hl:xs.length<ys.length
 ·rw [if_pos hl] at ho ⊢
  rw [compat_turn,compat_iff (by omega)] at hc
  have:=mz_within (by omega) hy hx hc ho
  rw [Bool.and_comm r t]
  exact ⟨this.2,this.1⟩
 ·rw [if_neg hl] at ho ⊢
  rw [compat_iff (by omega)] at hc
  exact mz_within (by omega) hx hy hc ho
open Go.RowKit
open Pm
end Go.Proofs.YtelkmeiepliecaaGreatDoor
namespace Go.Proofs.YtelkmeiepliecaaGreatDoor
open Go.RowKit
open Pm
end Go.Proofs.YtelkmeiepliecaaGreatDoor
