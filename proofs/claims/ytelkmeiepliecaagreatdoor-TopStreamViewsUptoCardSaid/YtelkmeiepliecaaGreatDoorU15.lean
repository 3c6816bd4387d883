/-
  Part 15 of the proof.
-/
import Derived.Test.YtelkmeiepliecaaGreatDoorU14
set_option linter.unusedSimpArgs false
set_option linter.unusedVariables false
set_option maxHeartbeats 16000000
namespace Go.Proofs.YtelkmeiepliecaaGreatDoor
open Go.RowKit
open Pm
def bndB (xs:List ByteArray) (r:Bool) (zs:List ByteArray) (u:Bool):List (List ByteArray×Bool):=if withinOk insB zs xs u r=true then bindB xs zs r u else []
def carE (xs:List ByteArray) (r:Bool) (zs:List ByteArray) (u:Bool) (ys:List ByteArray) (t:Bool):Int:=if subE ys t (bndB xs r zs u)=0 then 0 else 43
def carL (xs:List ByteArray) (r:Bool) (zs:List ByteArray) (u:Bool) (ys:List ByteArray) (t:Bool):List ByteArray:=subL ys t (bndB xs r zs u)
def carR (xs:List ByteArray) (r:Bool) (zs:List ByteArray) (u:Bool) (ys:List ByteArray) (t:Bool):Bool:=subR ys t (bndB xs r zs u)
theorem tr_size' (x y:ByteArray):(trB x y).size≤y.size:=by
 unfold trB
 rw [mkB_size,Lib.size_eq]
 exact Lib.trimSuffix_le _ _
theorem bnd_sizes {xs zs:List ByteArray} {r u:Bool} (hl:zs.length≤5000) (hz:∀ y∈zs,y.size≤5000):(∀ b∈bndB xs r zs u,∀ x∈b.1,x.size≤5000)∧(∀ b∈bndB xs r zs u,b.1.length≤5000):=by
 have hg:∀ i,(zs.getD i eB).size≤5000:=fun i=>by
  rw [List.getD]
  cases h:zs[i]? with
  | none=>exact Nat.zero_le _
  | some y=>exact hz y (mG h)
 unfold bndB
 split
 ·constructor
  ·intro b hb x hx
   unfold bindB at hb
   rcases List.mem_append.1 hb with hb|hb
   ·unfold bindI at hb
    obtain ⟨i,_,rfl⟩:=List.mem_map.1 hb
    simp only [List.mem_singleton] at hx
    subst hx
    exact Nat.le_trans (tr_size' _ _) (hg i)
   ·split at hb
    ·obtain rfl:=List.mem_singleton.1 hb
     exact hz x (List.mem_of_mem_drop hx)
    ·cases hb
  ·intro b hb
   unfold bindB at hb
   rcases List.mem_append.1 hb with hb|hb
   ·unfold bindI at hb
    obtain ⟨i,_,rfl⟩:=List.mem_map.1 hb
    simp
   ·split at hb
    ·obtain rfl:=List.mem_singleton.1 hb
     simp only [List.length_drop]
     omega
    ·cases hb
 ·exact ⟨fun b hb=>(by cases hb),fun b hb=>(by cases hb)⟩
theorem At.bt2 {w:World} {M:Option Addr} {m:Nat} {bs:List (List ByteArray×Bool)} (h:BT w M m bs):At (fun w=>BT w M m bs) w:=⟨kept_bt _ _ _,h⟩
theorem At.rb2 {w:World} {M:Option Addr} {m:Nat} {xs:List ByteArray} {q:Bool} (h:RT w M m xs):At (fun w'=>PX w' w.heap.size (.slice M xs.length m) (.bool q)∧RT w' M m xs) (w.alloc (.cells #[.slice M xs.length m,.bool q] 45)):=⟨(kept_px _ _ _).both (kept_rt _ _ _),PX.new _ _ _ _,h.below (ba _ _)⟩
def PC3 (W:World) (A:Option Addr) (c:Nat) (xs:List ByteArray) (r:Bool) (B:Option Addr) (d:Nat) (zs:List ByteArray) (u:Bool) (C:Option Addr) (e:Nat) (ys:List ByteArray) (t:Bool) (w:World):Prop :=
 (PX w W.heap.size (.slice A xs.length c) (.bool r)∧PX w (W.heap.size+1) (.slice B zs.length d) (.bool u)∧PX w (W.heap.size+2) (.slice C ys.length e) (.bool t)∧PX w (W.heap.size+3) (.slice none 0 0) (.bool false))∧(RT w A c xs∧RT w B d zs∧RT w C e ys)∧ML w∧Below W.heap.size W w
theorem PC3.kept (W:World) (A:Option Addr) (c:Nat) (xs:List ByteArray) (r:Bool) (B:Option Addr) (d:Nat) (zs:List ByteArray) (u:Bool) (C:Option Addr) (e:Nat) (ys:List ByteArray) (t:Bool):Kept (PC3 W A c xs r B d zs u C e ys t) :=
 ((kept_px _ _ _).both ((kept_px _ _ _).both ((kept_px _ _ _).both (kept_px _ _ _)))).both (((kept_rt _ _ _).both ((kept_rt _ _ _).both (kept_rt _ _ _))).both (kept_ml.both (kept_below _)))
theorem PX.nw {w:World} {g:Nat} {u v:Value} {t:TypeId} (hg:g=w.heap.size):PX (w.alloc (.cells #[u,v] t)) g u v:=by
 subst hg
 exact PX.new w u v t
theorem P5.nw {w:World} {g:Nat} {u0 u1 u2 u3 u4:Value} {t:TypeId} (hg:g=w.heap.size):P5 (w.alloc (.cells #[u0,u1,u2,u3,u4] t)) g u0 u1 u2 u3 u4:=by
 subst hg
 exact P5.new w _ _ _ _ _ _
theorem F5.nw {w:World} {g:Nat} {u0 u1 u2 u3 u4:Value} {t:TypeId} (hg:g=w.heap.size):F5 (w.alloc (.cells #[u0,u1,u2,u3,u4] t)) g:=by
 subst hg
 exact F5.new w _ _ _ _ _ _
theorem PC3.enter {W:World} {A:Option Addr} {c:Nat} {xs:List ByteArray} {B:Option Addr} {d:Nat} {zs:List ByteArray} {C:Option Addr} {e:Nat} {ys:List ByteArray} (h:RT W A c xs) (k:RT W B d zs) (l:RT W C e ys) (m:ML W) (r u t:Bool) (T:TypeId) :
 At (PC3 W A c xs r B d zs u C e ys t) ((((W.alloc (.cells #[.slice A xs.length c,.bool r] T)).alloc (.cells #[.slice B zs.length d,.bool u] T)).alloc (.cells #[.slice C ys.length e,.bool t] T)).alloc (.cells #[.slice none 0 0,.bool false] T)):=by
 have hb:Below W.heap.size W ((((W.alloc (.cells #[.slice A xs.length c,.bool r] T)).alloc (.cells #[.slice B zs.length d,.bool u] T)).alloc (.cells #[.slice C ys.length e,.bool t] T)).alloc (.cells #[.slice none 0 0,.bool false] T)):=by repeat (first|exact Below.refl _ _|apply below_al)
 exact ⟨PC3.kept _ _ _ _ _ _ _ _ _ _ _ _ _,⟨(((PX.new W _ _ _).below (ba _ _)).below (ba _ _)).below (ba _ _),((PX.nw (by simp)).below (ba _ _)).below (ba _ _),(PX.nw (by simp)).below (ba _ _),PX.nw (by simp)⟩,⟨h.below hb,k.below hb,l.below hb⟩,m.below hb,hb⟩
theorem PC3.cells {W:World} {A:Option Addr} {c:Nat} {xs:List ByteArray} {r:Bool} {B:Option Addr} {d:Nat} {zs:List ByteArray} {u:Bool} {C:Option Addr} {e:Nat} {ys:List ByteArray} {t:Bool} {w:World} (h:At (PC3 W A c xs r B d zs u C e ys t) w) :
 PX w W.heap.size (.slice A xs.length c) (.bool r)∧PX w (W.heap.size+1) (.slice B zs.length d) (.bool u)∧PX w (W.heap.size+2) (.slice C ys.length e) (.bool t)∧PX w (W.heap.size+3) (.slice none 0 0) (.bool false):=h.out.1
theorem carry_any (A:Option Addr) (c:Nat) (xs:List ByteArray) (r:Bool) (B:Option Addr) (d:Nat) (zs:List ByteArray) (u:Bool) (C:Option Addr) (e:Nat) (ys:List ByteArray) (t:Bool) (w:World) (h:RT w A c xs) (k:RT w B d zs) (l:RT w C e ys) (hm:ML w)
 (hsx:∀ x∈xs,x.size≤5000) (hsz:∀ x∈zs,x.size≤5000) (hlz:zs.length≤5000) (hsy:∀ x∈ys,x.size≤5000) :
 Calls Tryz.prog 59 #[.agg #[.slice A xs.length c,.bool r],.agg #[.slice B zs.length d,.bool u],.agg #[.slice C ys.length e,.bool t]] w (RetP w (carL xs r zs u ys t) (carR xs r zs u ys t) (carE xs r zs u ys t)):=by
 have HI:=PC3.enter h k l hm r u t 45
 have HB:=lh (fun w h k m=>bind_any A B c d xs zs r u w h k m (five9 hsx) (five9 hsz))
 have HZ:=lh (bnd_sizes (xs:=xs) (r:=r) (u:=u) hlz hsz)
 have HS:=lh (fun L n w l k=>sub_any C L e n ys t (bndB xs r zs u) w l k hsy HZ.out.1 HZ.out.2)
 have HE:Hid (carE xs r zs u ys t=if subE ys t (bndB xs r zs u)=0 then 0 else 43):=lh rfl
 have HERR:=lh (fun n (h:subE ys t (bndB xs r zs u)=n) hn=>sub_err h hn)
 unfold carL carR
 have eb:(if withinOk insB zs xs u r=true then bindB xs zs r u else [])=bndB xs r zs u:=rfl
 rw [eb] at HB
 generalize withinOk insB zs xs u r=ok at *
 generalize carE xs r zs u ys t=ce at *
 generalize hLL:subL ys t (bndB xs r zs u)=LL at *
 generalize hRR:subR ys t (bndB xs r zs u)=RR at *
 generalize hEE:subE ys t (bndB xs r zs u)=EE at *
 generalize bndB xs r zs u=bs at *
 have hx1:=h.1
 have hx2:=h.2.1
 have hy1:=k.1
 have hy2:=k.2.1
 have hz1:=l.1
 have hz2:=l.2.1
 clear h k l hm hsx hsz hlz hsy eb hLL hRR hEE
 by_cases h0:EE=0
 ·subst h0
  have he:=HE.out
  rw [if_pos rfl] at he
  subst he
  clear HE HERR
  go_enter Tryz.func59,Tryz.ntmps59
  go_wp2_with (first
   | (go_at_call 88;refine (HB.out _ (HI.go bB).out.2.1.1 (HI.go bB).out.2.1.2.1 (HI.go bB).out.2.2.1).mono ?_;rintro e w3 ⟨L,n,rfl,hbt,hb⟩;replace HI:=HI.go2 bB hb;clear hb;have HL:=At.bt2 hbt;have l1:=hbt.1;have l2:=hbt.2.1;clear hbt;obtain ⟨⟨p1,p2,p3,p4,p5⟩,⟨q1,q2,q3,q4,q5⟩,⟨s1,s2,s3,s4,s5⟩,⟨r1,r2,r3,r4,r5⟩⟩:=PC3.cells HI)
   | (go_at_call 89;refine (HS.out _ _ _ (HI.go bB).out.2.1.2.2 (HL.go bB).out).mono ?_;rintro e w4 ⟨D,m,rfl,hr,hb⟩;replace HI:=HI.go2 bB hb;clear hb;have HD:=At.rb2 (q:=RR) hr;have HD0:=lh hr;have d1:=hr.1;have d2:=hr.2.1;clear hr;obtain ⟨⟨p1,p2,p3,p4,p5⟩,⟨q1,q2,q3,q4,q5⟩,⟨s1,s2,s3,s4,s5⟩,⟨r1,r2,r3,r4,r5⟩⟩:=PC3.cells HI))
  refine bodyPost_ret (v:=.tuple #[.agg #[.slice D LL.length m,.bool RR],.int .i64 0]) (by simp [results,Tryz.results59,go_sem,r1,r2,r3,r4,r5]) rfl ⟨D,m,rfl,?_,?_⟩
  ·first
   | exact HD.out.2.box ((PC3.cells (HI.go (ba _ _))).2.2.2) (slice_ns _ _ _) (bool_ns _) _ _
   | exact (HD0.out.box ((PC3.cells HI).2.2.2) (slice_ns _ _ _) (bool_ns _) _ _).below (ba _ _)
  ·first
   | exact below_box (HI.go (ba _ _)).out.2.2.2 (by omega) _ _
   | exact below_al (below_box HI.out.2.2.2 (by omega) _ _) _
 ·have hnB:(EE != 0)=true:=by rw [bne_iff_ne];exact h0
  have he:=HE.out
  rw [if_neg h0] at he
  subst he
  obtain ⟨rfl,rfl⟩:=HERR.out _ rfl h0
  clear HE HERR h0
  go_enter Tryz.func59,Tryz.ntmps59
  go_wp2_with (first
   | (go_at_call 88;refine (HB.out _ (HI.go bB).out.2.1.1 (HI.go bB).out.2.1.2.1 (HI.go bB).out.2.2.1).mono ?_;rintro e w3 ⟨L,n,rfl,hbt,hb⟩;replace HI:=HI.go2 bB hb;clear hb;have HL:=At.bt2 hbt;have l1:=hbt.1;have l2:=hbt.2.1;clear hbt;obtain ⟨⟨p1,p2,p3,p4,p5⟩,⟨q1,q2,q3,q4,q5⟩,⟨s1,s2,s3,s4,s5⟩,⟨r1,r2,r3,r4,r5⟩⟩:=PC3.cells HI)
   | (go_at_call 89;refine (HS.out _ _ _ (HI.go bB).out.2.1.2.2 (HL.go bB).out).mono ?_;rintro e w4 ⟨D,m,rfl,hr,hb⟩;replace HI:=HI.go2 bB hb;clear hb;clear hr;obtain ⟨⟨p1,p2,p3,p4,p5⟩,⟨q1,q2,q3,q4,q5⟩,⟨s1,s2,s3,s4,s5⟩,⟨r1,r2,r3,r4,r5⟩⟩:=PC3.cells HI))
  refine bodyPost_ret (v:=.tuple #[.agg #[.slice none 0 0,.bool false],.int .i64 43]) (by simp [results,Tryz.results59,go_sem,r1,r2,r3,r4,r5]) rfl ⟨none,0,rfl,RT.nil _ _ _ (by omega),?_⟩
  first
  | exact below_box (HI.go (ba _ _)).out.2.2.2 (by omega) _ _
  | exact below_al (below_box HI.out.2.2.2 (by omega) _ _) _
def narE (xs:List ByteArray) (r:Bool) (ys:List ByteArray) (t:Bool) (zs:List ByteArray) (u:Bool):Int :=
 if ruleE xs r ys t≠0 then ruleE xs r ys t else if checkP zs u≠0 then checkP zs u else if meetOk xs zs r u=false then 0 else carE xs r (meetL xs zs) (r&&u) ys t
def narO (xs:List ByteArray) (r:Bool) (ys:List ByteArray) (t:Bool) (zs:List ByteArray) (u:Bool):Bool :=
 (ruleE xs r ys t==0)&&((checkP zs u==0)&&(meetOk xs zs r u&&(carE xs r (meetL xs zs) (r&&u) ys t==0)))
def narL (xs:List ByteArray) (r:Bool) (ys:List ByteArray) (t:Bool) (zs:List ByteArray) (u:Bool):List ByteArray:=if narO xs r ys t zs u=true then meetL xs zs else []
def narLr (xs:List ByteArray) (r:Bool) (ys:List ByteArray) (t:Bool) (zs:List ByteArray) (u:Bool):Bool:=if narO xs r ys t zs u=true then r&&u else false
def narR (xs:List ByteArray) (r:Bool) (ys:List ByteArray) (t:Bool) (zs:List ByteArray) (u:Bool):List ByteArray:=if narO xs r ys t zs u=true then carL xs r (meetL xs zs) (r&&u) ys t else []
def narRr (xs:List ByteArray) (r:Bool) (ys:List ByteArray) (t:Bool) (zs:List ByteArray) (u:Bool):Bool:=if narO xs r ys t zs u=true then carR xs r (meetL xs zs) (r&&u) ys t else false
def RetN (w:World) (L:List ByteArray) (l:Bool) (R:List ByteArray) (q:Bool) (ok:Bool) (n:Int) (e:Ending) (w':World):Prop :=
 ∃ A c B d,e=.returned (.tuple #[ruV false A c L l B d R q,.bool ok,.int .i64 n])∧RT w' A c L∧RT w' B d R∧Below w.heap.size w w'
def RetNar (w:World) (xs:List ByteArray) (r:Bool) (ys:List ByteArray) (t:Bool) (zs:List ByteArray) (u:Bool):Ending→World→Prop :=
 RetN w (narL xs r ys t zs u) (narLr xs r ys t zs u) (narR xs r ys t zs u) (narRr xs r ys t zs u) (narO xs r ys t zs u) (narE xs r ys t zs u)
theorem nar_bad {w:World} {xs ys zs:List ByteArray} {r t u:Bool} {n:Int} {e:Ending} {w':World} (ho:narO xs r ys t zs u=false) (hn:narE xs r ys t zs u=n) (h:RetN w [] false [] false false n e w'):RetNar w xs r ys t zs u e w':=by
 unfold RetNar narL narLr narR narRr
 rw [ho,hn]
 exact h
theorem nar_good {w:World} {xs ys zs:List ByteArray} {r t u:Bool} {e:Ending} {w':World} (ho:narO xs r ys t zs u=true) (h:RetN w (meetL xs zs) (r&&u) (carL xs r (meetL xs zs) (r&&u) ys t) (carR xs r (meetL xs zs) (r&&u) ys t) true 0 e w'):RetNar w xs r ys t zs u e w':=by
 have hn:narE xs r ys t zs u=0:=by
  unfold narO at ho
  rw [Bool.and_eq_true,Bool.and_eq_true,Bool.and_eq_true,beq_iff_eq,beq_iff_eq,beq_iff_eq] at ho
  unfold narE
  rw [if_neg (by simp [ho.1]),if_neg (by simp [ho.2.1]),if_neg (by simp [ho.2.2.1]),ho.2.2.2]
 unfold RetNar narL narLr narR narRr
 rw [ho,hn]
 exact h
theorem RetM.two {w w':World} {zs:List ByteArray} {q ok:Bool} {e:Ending} (h:RetMO w zs q ok e w'):RetM w (if ok=true then zs else []) (if ok=true then q else false) ok e w':=by
 cases ok with
 | true=>exact h.1 rfl
 | false=>exact h.2 rfl
def PNL (W:World) (ex:Bool) (A:Option Addr) (c:Nat) (xs:List ByteArray) (r:Bool) (B:Option Addr) (d:Nat) (ys:List ByteArray) (t:Bool) (C:Option Addr) (e:Nat) (zs:List ByteArray) (u:Bool) (w:World):Prop :=
 (P5 w W.heap.size (.bool ex) (.slice A xs.length c) (.bool r) (.slice B ys.length d) (.bool t)∧PX w (W.heap.size+1) (.slice C zs.length e) (.bool u))∧(P5 w (W.heap.size+2) (.bool false) (.slice none 0 0) (.bool false) (.slice none 0 0) (.bool false)∧F5 w (W.heap.size+2))∧(RT w A c xs∧RT w B d ys∧RT w C e zs)∧ML w∧Below W.heap.size W w
theorem PNL.kept (W:World) (ex:Bool) (A:Option Addr) (c:Nat) (xs:List ByteArray) (r:Bool) (B:Option Addr) (d:Nat) (ys:List ByteArray) (t:Bool) (C:Option Addr) (e:Nat) (zs:List ByteArray) (u:Bool):Kept (PNL W ex A c xs r B d ys t C e zs u) :=
 ((kept_p5 _ _ _ _ _ _).both (kept_px _ _ _)).both (((kept_p5 _ _ _ _ _ _).both (kept_f5 _)).both (((kept_rt _ _ _).both ((kept_rt _ _ _).both (kept_rt _ _ _))).both (kept_ml.both (kept_below _))))
theorem PNL.enter {W:World} {A:Option Addr} {c:Nat} {xs:List ByteArray} {B:Option Addr} {d:Nat} {ys:List ByteArray} {C:Option Addr} {e:Nat} {zs:List ByteArray} (h:RT W A c xs) (k:RT W B d ys) (l:RT W C e zs) (m:ML W) (ex r t u:Bool) (T U:TypeId) :
 At (PNL W ex A c xs r B d ys t C e zs u) (((W.alloc (.cells #[.bool ex,.slice A xs.length c,.bool r,.slice B ys.length d,.bool t] T)).alloc (.cells #[.slice C zs.length e,.bool u] U)).alloc (.cells #[.bool false,.slice none 0 0,.bool false,.slice none 0 0,.bool false] T)):=by
 have hb:Below W.heap.size W (((W.alloc (.cells #[.bool ex,.slice A xs.length c,.bool r,.slice B ys.length d,.bool t] T)).alloc (.cells #[.slice C zs.length e,.bool u] U)).alloc (.cells #[.bool false,.slice none 0 0,.bool false,.slice none 0 0,.bool false] T)):=by repeat (first|exact Below.refl _ _|apply below_al)
 exact ⟨PNL.kept _ _ _ _ _ _ _ _ _ _ _ _ _ _,⟨(kept_p5 _ _ _ _ _ _) _ _ ((kept_p5 _ _ _ _ _ _) _ _ (P5.new W _ _ _ _ _ _) (ba _ _)) (ba _ _),(PX.nw (by simp)).below (ba _ _)⟩,⟨P5.nw (by simp),F5.nw (by simp)⟩,⟨h.below hb,k.below hb,l.below hb⟩,m.below hb,hb⟩
theorem PNL.cells {W:World} {ex:Bool} {A:Option Addr} {c:Nat} {xs:List ByteArray} {r:Bool} {B:Option Addr} {d:Nat} {ys:List ByteArray} {t:Bool} {C:Option Addr} {e:Nat} {zs:List ByteArray} {u:Bool} {w:World} (h:At (PNL W ex A c xs r B d ys t C e zs u) w) :
 (P5 w W.heap.size (.bool ex) (.slice A xs.length c) (.bool r) (.slice B ys.length d) (.bool t)∧PX w (W.heap.size+1) (.slice C zs.length e) (.bool u))∧(P5 w (W.heap.size+2) (.bool false) (.slice none 0 0) (.bool false) (.slice none 0 0) (.bool false)∧F5 w (W.heap.size+2)):=⟨h.out.1,h.out.2.1⟩
end Go.Proofs.YtelkmeiepliecaaGreatDoor
