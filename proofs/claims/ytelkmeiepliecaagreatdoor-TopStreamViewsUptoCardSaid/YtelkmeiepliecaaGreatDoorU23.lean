/-
  Part 23 of the proof.
-/
import Derived.Test.YtelkmeiepliecaaGreatDoorU22
set_option linter.unusedSimpArgs false
set_option linter.unusedVariables false
set_option maxHeartbeats 16000000
namespace Go.Proofs.YtelkmeiepliecaaGreatDoor
open Go.RowKit Go.Shelf
structure PatIn (w:World) where
 A:Option Addr
 c:Nat
 xs:List ByteArray
 r:Bool
 h:RT w A c xs
 s:∀ x∈xs,x.size≤5000
instance (w:World):Inhabited (PatIn w):=⟨⟨none,0,[],false,RT.nil w none 0 (by omega),fun x hx=>by cases hx⟩⟩
def PatIn.enc {w:World} (x:PatIn w):List Value:=[.slice x.A x.xs.length x.c,.bool x.r]
def PatIn.pn {w:World} (x:PatIn w):Pn:=(x.xs,x.r)
theorem list_ofP {α:Type} (n:Nat) (P:Nat→α→Prop) (h:∀ j,j<n→∃ a,P j a):∃ l:List α,l.length=n∧∀ j a,l[j]? = some a→P j a:=by
 induction n with
 | zero=>exact ⟨[],rfl,fun j a h=>by simp at h⟩
 | succ n ih =>
  obtain ⟨l,hl,hP⟩:=ih (fun j hj=>h j (by omega))
  obtain ⟨a,ha⟩:=h n (by omega)
  refine ⟨l++[a],by simp [hl],fun j b hb=>?_⟩
  rcases Nat.lt_or_ge j l.length with hlt|hge
  ·rw [List.getElem?_append_left hlt] at hb
   exact hP j b hb
  ·rw [List.getElem?_append_right hge] at hb
   have hj:j-l.length=0:=by
    rcases Nat.eq_zero_or_pos (j-l.length) with e|e
    ·exact e
    ·rw [List.getElem?_eq_none (by simp;omega)] at hb;cases hb
   rw [hj] at hb
   have e1:a=b:=by simpa using hb
   have e2:j=n:=by omega
   rw [e2,← e1]
   exact ha
theorem BT.pats {w:World} {A:Option Addr} {c:Nat} {ps:List Pn} (h:BT w A c ps) (hs:∀ q∈ps,∀ x∈q.1,x.size≤5000) (h0:0<ps.length) :
 ∃ (b o:Nat) (zs:List (PatIn w)),A=some ⟨b,o,none⟩∧b<w.heap.size∧zs.map PatIn.pn=ps∧∀ j,j<zs.length→∀ i v,(zs[j]!.enc)[i]? = some v→w.cell? ⟨b,o+j * 2+i,none⟩=some v:=by
 obtain ⟨b,o,e,hb,hc⟩:=h.2.2 h0
 obtain ⟨zs,hl,hz⟩:=list_ofP (α:=PatIn w) ps.length (fun j z=>ps[j]? = some z.pn∧w.cell? ⟨b,o+j * 2,none⟩=some (.slice z.A z.xs.length z.c)∧w.cell? ⟨b,o+j * 2+1,none⟩=some (.bool z.r)) (fun j hj=>by
  obtain ⟨C,n,c1,c2,c3⟩:=hc j _ (gE hj)
  exact ⟨⟨C,n,_,_,c3,hs _ (List.getElem_mem hj)⟩,gE hj,c1,c2⟩)
 refine ⟨b,o,zs,e,hb,?_,fun j hj i v hi=>?_⟩
 ·refine List.ext_getElem? fun j=>?_
  rw [List.getElem?_map]
  cases hq:zs[j]? with
  | some z=>exact (hz j z hq).1.symm
  | none =>
   have:=List.getElem?_eq_none_iff.1 hq
   exact (List.getElem?_eq_none (by omega)).symm
 ·have hz1:=hz j zs[j] (gE hj)
  rw [getElem!_pos zs j hj] at hi
  generalize zs[j]=z at hz1 hi
  match i,hi with
  | 0,hi=>cases hi;exact hz1.2.1
  | 1,hi=>cases hi;exact hz1.2.2
  | i+2,hi=>simp [PatIn.enc] at hi
theorem containsP_any (g:FuncId) (lb:Array Value) (p:Pn→Bool) (A:Option Addr) (c:Nat) (ps:List Pn) (w:World) (h:BT w A c ps) (hs:∀ q∈ps,∀ x∈q.1,x.size≤5000) (h0:0<ps.length)
 (eg:∀ args w,(callFunc g args).run Tryz.prog w=.ok (.enter g args) w)
 (hp:∀ (W:World) (C:Option Addr) (n:Nat) (xs:List ByteArray) (r:Bool),Below w.heap.size w W→RT w C n xs→(∀ x∈xs,x.size≤5000) →
  Calls Tryz.prog g (#[.agg #[.slice C xs.length n,.bool r]]++lb) W fun e w'=>e=.returned (.bool (p (xs,r)))∧Below w.heap.size w w') :
 Calls Tryz.prog 71 #[.slice A ps.length c,.func (.func g) #[] lb] w fun e w'=>e=.returned (.bool (ps.any p))∧Below w.heap.size w w':=by
 obtain ⟨b,o,zs,e,hb,hm,hc⟩:=h.pats hs h0
 subst e
 have hl:zs.length=ps.length:=by rw [←hm,List.length_map]
 have hcon:=AnyQ.slices_ContainsFunc Tryz.layConP 2 Tryz.isAgg45 Tryz.sizeOf45 (PatIn.enc (w:=w)) (fun _=>rfl) (fun x=>p x.pn) g lb eg b o ps.length c zs w
  (fun W x hW=>hp W x.A x.c x.xs x.r hW x.h x.s) (by omega) (by have:=h.1;have:=h.2.1;omega) hb hc
 rw [show (zs.take ps.length).any (fun x=>p x.pn)=ps.any p from by rw [←hl,List.take_length,← hm,List.any_map];rfl] at hcon
 exact hcon
open Go.RowKit
set_option maxRecDepth 100000 in
theorem least1_any (gn gb:Nat) (n:Nat) (B:Option Addr) (d:Nat) (xs:List ByteArray) (r:Bool) (w:World) (hn:BX w gn [.int .i64 n]) (hb:BX w gb [.slice B xs.length d,.bool r]) (k:RT w B d xs) (hx:∀ x∈xs,x.size≤5000) (hn5:n≤100000)
 (W:World) (C:Option Addr) (m:Nat) (ys:List ByteArray) (t:Bool) (hW:Below w.heap.size w W) (h:RT w C m ys) (hy:∀ y∈ys,y.size≤5000) :
 Calls Tryz.prog 138 (#[.agg #[.slice C ys.length m,.bool t]]++#[.pointer (some ⟨gn,0,none⟩),.pointer (some ⟨gb,0,none⟩)]) W fun e w'=>e=.returned (.bool (reachB (ys,t) n&&covB (ys,t) (xs,r) 0 n))∧Below w.heap.size w w':=by
 have hc:=h.1
 have HQ:At (fun w'=>BX w' W.heap.size [.slice C ys.length m,.bool t]∧BX w' gn [.int .i64 n]∧BX w' gb [.slice B xs.length d,.bool r]∧RT w' C m ys∧RT w' B d xs∧Below w.heap.size w w') (W.alloc (.cells #[.slice C ys.length m,.bool t] 45)) :=
  ⟨fun X Y h hb=>⟨h.1.below hb,h.2.1.below hb,h.2.2.1.below hb,h.2.2.2.1.below hb,h.2.2.2.2.1.below hb,go3 h.2.2.2.2.2 hb⟩,BX.new W _ _ rfl,(hn.below hW).below (ba _ _),(hb.below hW).below (ba _ _),(h.below hW).below (ba _ _),(k.below hW).below (ba _ _),go3 hW (ba _ _)⟩
 have HRE:=lh (fun W=>reaches_any C m ys t n W hc)
 have HCV:=lh (fun W h k=>covers_any C B m d ys xs t r 0 n W h k hy hx hn5 (by omega))
 have hg1:gn<W.heap.size:=Nat.lt_of_lt_of_le hn.2.2 hW.size
 have hg2:gb<W.heap.size:=Nat.lt_of_lt_of_le hb.2.2 hW.size
 clear hn hb k hx h hy hW
 generalize reachB (ys,t) n=q at *
 generalize covB (ys,t) (xs,r) 0 n=p at *
 have n0:(W.alloc (.cells #[.slice C ys.length m,.bool t] 45)).cell? ⟨gn,0,none⟩=some (.int .i64 n):=HQ.out.2.1.c1
 show Calls Tryz.prog 138 #[.agg #[.slice C ys.length m,.bool t],.pointer (some ⟨gn,0,none⟩),.pointer (some ⟨gb,0,none⟩)] W _
 cases q
 all_goals
  go_enter Tryz.func138,Tryz.ntmps138
  go_wp2_with (first
   | (go_at_call 139;refine (HRE.out _).mono ?_;rintro e w1 ⟨rfl,hb1⟩;replace HQ:=HQ.go2 bB hb1;clear hb1;obtain ⟨a0,a1⟩:=HQ.out.1.c2;have n1:=HQ.out.2.1.c1;obtain ⟨b0,b1⟩:=HQ.out.2.2.1.c2)
   | (go_at_call 140;refine (HCV.out _ HQ.out.2.2.2.1 HQ.out.2.2.2.2.1).mono ?_;rintro e w2 ⟨rfl,hb2⟩;replace HQ:=HQ.go2 bB hb2;clear hb2))
  go_ret
  exact ⟨by simp,HQ.out.2.2.2.2.2⟩
open Go.RowKit
theorem indexP_none (f:Value) (A:Option Addr) (c:Nat) (w:World) :
 Calls Tryz.prog 99 #[.slice A 0 c,f] w fun e w'=>e=.returned (.int .i64 (-1))∧Below w.heap.size w w':=by
 go_enter Tryz.func99,Tryz.ntmps99
 go_wp2_with fail
 go_loopw [8] (fun s wr=>s=.int .i64 0∧Hid (Below w.heap.size w wr)) (fun _ _=>0)
 case atStart=>exact ⟨rfl,lh bB⟩
 case round =>
  obtain ⟨rfl,HB⟩:=hrel
  go_wp2_with fail
  go_ret
  exact ⟨rfl,HB.out⟩
theorem containsP_none (f:Value) (A:Option Addr) (c:Nat) (w:World) :
 Calls Tryz.prog 71 #[.slice A 0 c,f] w fun e w'=>e=.returned (.bool false)∧Below w.heap.size w w':=by
 have HI:=lh (fun W=>indexP_none f A c W)
 go_enter Tryz.func71,Tryz.ntmps71
 go_wp2_with (go_at_call 99;refine (HI.out _).mono ?_;rintro e w1 ⟨rfl,hb⟩;have HB:=lh hb;clear hb)
 go_ret
 exact ⟨rfl,HB.out⟩
open Go.RowKit
def leastF (b:Pn) (hs:List Pn):Nat:=((List.range (lastN b hs+1)).find? fun n=>decide (firstN b≤n)&&!takenB b hs n).getD 0
theorem least_found {b:Pn} {hs:List Pn} {n:Nat} (h1:firstN b≤n) (h2:n≤lastN b hs) (h3:takenB b hs n=false) (h4:∀ m,firstN b≤m→m<n→takenB b hs m=true):leastF b hs=n:=by
 have e:(List.range (lastN b hs+1)).find? (fun n=>decide (firstN b≤n)&&!takenB b hs n)=some n:=(List.find?_range_eq_some).2 ⟨by simp [h1,h3],List.mem_range.2 (by omega),fun j hj=>by
  by_cases h:firstN b≤j
  ·simp [h4 j h hj]
  ·simp [h]⟩
 unfold leastF
 rw [e]
 rfl
theorem least_none {b:Pn} {hs:List Pn} (h4:∀ m,firstN b≤m→m≤lastN b hs→takenB b hs m=true):leastF b hs=0:=by
 unfold leastF
 rw [List.find?_eq_none.2 fun j hj=>by
  have:=List.mem_range.1 hj
  by_cases h:firstN b≤j
  ·simp [h4 j h (by omega)]
  ·simp [h]]
 rfl
set_option maxRecDepth 100000 in
theorem least_plain (B A:Option Addr) (d c:Nat) (xs:List ByteArray) (hs:List Pn) (w:World) (h:RT w B d xs) (k:BT w A c hs) (hx:∀ x∈xs,x.size≤5000) (hh:∀ q∈hs,∀ x∈q.1,x.size≤5000) (hl:xs.length≤5000) :
 Calls Tryz.prog 113 #[.agg #[.slice B xs.length d,.bool false],.slice A hs.length c] w fun e w'=>e=.returned (.int .i64 (leastF (xs,false) hs))∧Below w.heap.size w w':=by
 have HX:=lh h
 have HH:=lh k
 have HSX:=lh hx
 have HSH:=lh hh
 have HFE:Hid (firstN (xs,false)=xs.length):=lh rfl
 have HLE:Hid (lastN (xs,false) hs=xs.length):=lh rfl
 have HS:At (BB w [(w.heap.size,[.slice B xs.length d,.bool false])]) (w.alloc (.cells #[.slice B xs.length d,.bool false] 45)):=((BB.nil w).push [.slice B xs.length d,.bool false] 45 rfl).at_
 obtain ⟨d0,d1⟩:=(HS.out.get 0 rfl).c2
 have q2:=k.2.1
 clear h k hx hh
 go_enter Tryz.func113,Tryz.ntmps113
 go_upto_region 1 with (fail)
 go_quiet (fail)
 go_wp2_with fail
 go_loopg [9] (xs.length+1-xs.length) (fun g s wr=>∃ n gn:Nat,n+g=xs.length+1∧xs.length≤n∧s=.pointer (some ⟨gn,0,none⟩)∧Hid (BX wr gn [.int .i64 n])∧Hid (BB w [(w.heap.size,[.slice B xs.length d,.bool false])] wr)∧Hid (∀ m,xs.length≤m→m<n→takenB (xs,false) hs m=true))
 case atStart=>exact ⟨xs.length,_,by omega,Nat.le_refl _,rfl,lh (BX.new _ [_] _ (by simp)),lh (HS.go bB).out,lh (fun m h1 h2=>by omega)⟩
 case round =>
  clear HS d0 d1
  obtain ⟨n,gn,hng,hFn,rfl,HN,HS0,HT⟩:=hrel
  have HS:=HS0.out.at_
  clear HS0
  have n0:=HN.out.c1
  have nf:=HN.out.2.1
  have nl:=HN.out.2.2
  by_cases hnL:n≤xs.length
  ·obtain ⟨g2,rfl⟩:∃ g2,gk=g2+1:=⟨gk-1,by omega⟩
   have HCF:Hid (Calls Tryz.prog 71 #[.slice A hs.length c,.func (.func 138) #[] #[.pointer (some ⟨gn,0,none⟩),.pointer (some ⟨w.heap.size,0,none⟩)]] wr fun e w'=>e=.returned (.bool (takenB (xs,false) hs n))∧Below wr.heap.size wr w'):=lh (by
    by_cases h0:0<hs.length
    ·exact containsP_any 138 _ (fun h=>reachB h n&&covB h (xs,false) 0 n) A c hs wr (HH.out.below HS.out.low) HSH.out h0 (enters_of Tryz.func138 (by kernel_rfl) rfl)
      (fun W C m ys t hW hr hy=>least1_any gn w.heap.size n B d xs false wr HN.out (HS.out.get 0 rfl) (HX.out.below HS.out.low) HSX.out (by omega) W C m ys t hW hr hy)
    ·have:hs=[]:=List.eq_nil_of_length_eq_zero (by omega)
     subst this
     exact containsP_none _ A c wr)
   have HNO:Hid (takenB (xs,false) hs n=false→leastF (xs,false) hs=n):=lh (fun hq=>least_found (by rw [HFE.out];exact hFn) (by rw [HLE.out];exact hnL) hq (fun m h1 h2=>HT.out m (by rw [HFE.out] at h1;exact h1) h2))
   have HYES:Hid (takenB (xs,false) hs n=true→∀ m,xs.length≤m→m<n+1→takenB (xs,false) hs m=true):=lh (fun hq m h1 h2=>by
    rcases Nat.lt_or_ge m n with hlt|hge
    ·exact HT.out m h1 hlt
    ·obtain rfl:m=n:=by omega
     exact hq)
   generalize takenB (xs,false) hs n=q at *
   go_wp2_with (go_at_call 71;refine HCF.out.mono ?_;rintro e w1 ⟨rfl,hb⟩;replace HS:=HS.go2 bB hb;replace HN:=lh (HN.out.below hb);clear hb n0 nf nl;have n0:=HN.out.c1;have nf:=HN.out.2.1;have nl:=HN.out.2.2)
   all_goals first
    | (obtain rfl:q=false:=by cases q<;>simp_all
       have HRES:=lh (HNO.out rfl)
       go_ret
       exact ⟨by rw [HRES.out];rfl,HS.out.low⟩)
    | (obtain rfl:q=true:=by cases q<;>simp_all
       have HT2:=lh (HYES.out rfl)
       go_roundg g2
       case measure=>omega
       case rel=>exact ⟨n+1,_,by omega,by omega,rfl,lh (by have:=BX.new w1 [.int .i64 ((n:Int)+1)] 3 rfl;simpa using this),lh (HS.go (ba _ _)).out,HT2⟩)
  ·have HRES:Hid (leastF (xs,false) hs=0):=lh (least_none fun m h1 h2=>HT.out m (by rw [HFE.out] at h1;exact h1) (by rw [HLE.out] at h2;omega))
   go_wp2_with fail
   go_ret
   exact ⟨by rw [HRES.out];rfl,HS.out.low⟩
def foldN (m:Nat) (hs:List Pn):Nat:=hs.foldl (fun m h=>max m (h.1.length+1)) m
theorem foldN_snoc {m:Nat} {hs:List Pn} {k:Nat} {p:Pn} (h:hs[k]? = some p):foldN m (hs.take (k+1))=max (foldN m (hs.take k)) (p.1.length+1):=by
 unfold foldN
 rw [List.take_add_one,h,List.foldl_append]
 rfl
set_option maxRecDepth 100000 in
theorem least_rest (B A:Option Addr) (d c:Nat) (xs:List ByteArray) (hs:List Pn) (w:World) (h:RT w B d xs) (k:BT w A c hs) (hx:∀ x∈xs,x.size≤5000) (hh:∀ q∈hs,∀ x∈q.1,x.size≤5000) (hl:xs.length≤5000) (hhl:∀ q∈hs,q.1.length≤5000) :
 Calls Tryz.prog 113 #[.agg #[.slice B xs.length d,.bool true],.slice A hs.length c] w fun e w'=>e=.returned (.int .i64 (leastF (xs,true) hs))∧Below w.heap.size w w':=by
 have HX:=lh h
 have HH:=lh k
 have HSX:=lh hx
 have HSH:=lh hh
 have HHL:=lh hhl
 have HFE:Hid (firstN (xs,true)=xs.length+1):=lh rfl
 have HLE0:Hid (lastN (xs,true) hs=foldN (xs.length+1) hs):=lh rfl
 have HFL:Hid (xs.length+1≤foldN (xs.length+1) hs):=lh (fold_max hs _).1
 have HS:At (BB w [(w.heap.size,[.slice B xs.length d,.bool true])]) (w.alloc (.cells #[.slice B xs.length d,.bool true] 45)):=((BB.nil w).push [.slice B xs.length d,.bool true] 45 rfl).at_
 obtain ⟨d0,d1⟩:=(HS.out.get 0 rfl).c2
 have q1:=k.1
 have q2:=k.2.1
 clear h k hx hh hhl
 go_enter Tryz.func113,Tryz.ntmps113
 go_upto_region 1 with (fail)
 go_quiet (fail)
 replace HS:=(HS.go bB).out.at_
 go_upto_region 5 with (fail)
 go_loopw [6,24] (fun s6 s wr=>∃ k L:Nat,k≤hs.length∧s=.int .i64 k∧s6=.int .i64 L∧L≤5001∧Hid (L=foldN (xs.length+1) (hs.take k))∧Hid (BB w [(w.heap.size,[.slice B xs.length d,.bool true])] wr)) (fun _ s _=>hs.length-(intOf s).toNat)
 case atStart=>exact ⟨0,xs.length+1,Nat.zero_le _,rfl,by go_num,by omega,lh rfl,lh (HS.go bB).out⟩
 case round =>
  clear HS d0 d1
  obtain ⟨k,L,hk,rfl,rfl,hL5,HL,HS0⟩:=hrel
  have HS:=HS0.out.at_
  clear HS0
  by_cases hlt:k<hs.length
  ·obtain ⟨p,hp⟩:∃ p,hs[k]? = some p:=⟨_,gE hlt⟩
   obtain ⟨b,o,rfl,hb,hc⟩:=(HH.out.below HS.out.low).2.2 (by omega)
   obtain ⟨C,n,x0,x1,x2⟩:=hc k p hp
   have hpl:=HHL.out p (mG hp)
   have HN:=lh (foldN_snoc (m:=xs.length+1) hp)
   have HLX:Hid (foldN (xs.length+1) (hs.take (k+1))=max L (p.1.length+1)):=lh (by rw [HN.out,HL.out])
   clear hc hp x2 HN HL
   by_cases hm:L≤p.1.length+1
   ·have HM:Hid (max L (p.1.length+1)=p.1.length+1):=lh (Nat.max_eq_right hm)
    have hmi:max (L:Int) ((p.1.length:Int)+1)=(p.1.length:Int)+1:=by omega
    go_wp2_with fail
    go_roundw
    case rel=>exact ⟨k+1,p.1.length+1,by omega,by go_num,by go_num,by omega,lh (by rw [HLX.out,HM.out]),lh (HS.go bB).out⟩
    case measure=>simp [intOf];omega
   ·have HM:Hid (max L (p.1.length+1)=L):=lh (Nat.max_eq_left (by omega))
    have hmi:max (L:Int) ((p.1.length:Int)+1)=(L:Int):=by omega
    go_wp2_with fail
    go_roundw
    case rel=>exact ⟨k+1,L,by omega,by go_num,rfl,by omega,lh (by rw [HLX.out,HM.out]),lh (HS.go bB).out⟩
    case measure=>simp [intOf];omega
  ·obtain rfl:k=hs.length:=by omega
   have hLE:=HLE0.out
   have hl0:=HL.out
   rw [List.take_length] at hl0
   rw [←hl0] at hLE
   have HLE:Hid (lastN (xs,true) hs=L):=lh hLE
   have hFL:=HFL.out
   rw [←hl0] at hFL
   obtain ⟨d0,d1⟩:=(HS.out.get 0 rfl).c2
   clear hLE hl0 HL HLE0 HFL
   obtain ⟨wo,rfl⟩:∃ wo,wo=wr:=⟨wr,rfl⟩
   go_wp2_with fail
   go_loopg [9] (L+1-(xs.length+1)) (fun g s wr=>∃ n gn:Nat,n+g=L+1∧(xs.length+1)≤n∧s=.pointer (some ⟨gn,0,none⟩)∧Hid (BX wr gn [.int .i64 n])∧Hid (BB w [(w.heap.size,[.slice B xs.length d,.bool true])] wr)∧Hid (∀ m,(xs.length+1)≤m→m<n→takenB (xs,true) hs m=true))
   case atStart=>exact ⟨(xs.length+1),_,by omega,Nat.le_refl _,rfl,lh (BX.new _ [_] _ (by simp)),lh (HS.go bB).out,lh (fun m h1 h2=>by omega)⟩
   case round =>
    clear HS d0 d1
    obtain ⟨n,gn,hng,hFn,rfl,HN,HS0,HT⟩:=hrel
    have HS:=HS0.out.at_
    clear HS0
    have n0:=HN.out.c1
    have nf:=HN.out.2.1
    have nl:=HN.out.2.2
    by_cases hnL:n≤L
    ·obtain ⟨g2,rfl⟩:∃ g2,gk=g2+1:=⟨gk-1,by omega⟩
     have HCF:Hid (Calls Tryz.prog 71 #[.slice A hs.length c,.func (.func 138) #[] #[.pointer (some ⟨gn,0,none⟩),.pointer (some ⟨w.heap.size,0,none⟩)]] wr fun e w'=>e=.returned (.bool (takenB (xs,true) hs n))∧Below wr.heap.size wr w'):=lh (by
      by_cases h0:0<hs.length
      ·exact containsP_any 138 _ (fun h=>reachB h n&&covB h (xs,true) 0 n) A c hs wr (HH.out.below HS.out.low) HSH.out h0 (enters_of Tryz.func138 (by kernel_rfl) rfl)
        (fun W C m ys t hW hr hy=>least1_any gn w.heap.size n B d xs true wr HN.out (HS.out.get 0 rfl) (HX.out.below HS.out.low) HSX.out (by omega) W C m ys t hW hr hy)
      ·have:hs=[]:=List.eq_nil_of_length_eq_zero (by omega)
       subst this
       exact containsP_none _ A c wr)
     have HNO:Hid (takenB (xs,true) hs n=false→leastF (xs,true) hs=n):=lh (fun hq=>least_found (by rw [HFE.out];exact hFn) (by rw [HLE.out];exact hnL) hq (fun m h1 h2=>HT.out m (by rw [HFE.out] at h1;exact h1) h2))
     have HYES:Hid (takenB (xs,true) hs n=true→∀ m,(xs.length+1)≤m→m<n+1→takenB (xs,true) hs m=true):=lh (fun hq m h1 h2=>by
      rcases Nat.lt_or_ge m n with hlt|hge
      ·exact HT.out m h1 hlt
      ·obtain rfl:m=n:=by omega
       exact hq)
     generalize takenB (xs,true) hs n=q at *
     go_wp2_with (go_at_call 71;refine HCF.out.mono ?_;rintro e w1 ⟨rfl,hb⟩;replace HS:=HS.go2 bB hb;replace HN:=lh (HN.out.below hb);clear hb n0 nf nl;have n0:=HN.out.c1;have nf:=HN.out.2.1;have nl:=HN.out.2.2)
     all_goals first
      | (obtain rfl:q=false:=by cases q<;>simp_all
         have HRES:=lh (HNO.out rfl)
         go_ret
         exact ⟨by rw [HRES.out];rfl,HS.out.low⟩)
      | (obtain rfl:q=true:=by cases q<;>simp_all
         have HT2:=lh (HYES.out rfl)
         go_roundg g2
         case measure=>omega
         case rel=>exact ⟨n+1,_,by omega,by omega,rfl,lh (by have:=BX.new w1 [.int .i64 ((n:Int)+1)] 3 rfl;simpa using this),lh (HS.go (ba _ _)).out,HT2⟩)
    ·have HRES:Hid (leastF (xs,true) hs=0):=lh (least_none fun m h1 h2=>HT.out m (by rw [HFE.out] at h1;exact h1) (by rw [HLE.out] at h2;omega))
     go_wp2_with fail
     go_ret
     exact ⟨by rw [HRES.out];rfl,HS.out.low⟩
open Go.RowKit
def szP (p:Pn):Prop:=(∀ x∈p.1,x.size≤5000)∧p.1.length≤5000
def voidF (b:Pn) (hs:List Pn):Bool:=decide (leastF b hs=0)
theorem voidF_sound {b:Pn} {hs:List Pn} (hok:∀ h∈hs,okPn h) (hb:okPn b) (hv:voidF b hs=true) {s:ByteArray} (h:mt b s=true):hs.any (mt · s)=true:=by
 refine void_sound hok ?_ h
 unfold voidF leastF at hv
 rw [decide_eq_true_eq] at hv
 unfold voidB
 rw [List.all_eq_true]
 intro n hn
 have hn':=List.mem_range.1 hn
 rw [Bool.or_eq_true,decide_eq_true_eq]
 by_cases hf:n<firstN b
 ·exact .inl hf
 ·refine .inr ?_
  have h0:0<firstN b:=by
   have:=(check_zero hb).1
   unfold firstN
   split<;>omega
  cases hq:(List.range (lastN b hs+1)).find? (fun n=>decide (firstN b≤n)&&!takenB b hs n) with
  | some i =>
   rw [hq] at hv
   have:=List.find?_some hq
   simp at this
   simp at hv
   omega
  | none =>
   have:=List.find?_eq_none.1 hq n hn
   simp at this
   exact this (by omega)
theorem void_any (B A:Option Addr) (d c:Nat) (b:Pn) (hs:List Pn) (w:World) (h:RT w B d b.1) (k:BT w A c hs) (hb:szP b) (hh:∀ q∈hs,szP q) :
 Calls Tryz.prog 75 #[.agg #[.slice B b.1.length d,.bool b.2],.slice A hs.length c] w fun e w'=>e=.returned (.bool (voidF b hs))∧Below w.heap.size w w':=by
 have HL:Hid (∀ W,RT W B d b.1→BT W A c hs→Calls Tryz.prog 113 #[.agg #[.slice B b.1.length d,.bool b.2],.slice A hs.length c] W fun e w'=>e=.returned (.int .i64 (leastF b hs))∧Below W.heap.size W w'):=lh (fun W h k=>by
  obtain ⟨xs,r⟩:=b
  cases r with
  | false=>exact least_plain B A d c xs hs W h k hb.1 (fun q hq=>(hh q hq).1) hb.2
  | true=>exact least_rest B A d c xs hs W h k hb.1 (fun q hq=>(hh q hq).1) hb.2 (fun q hq=>(hh q hq).2))
 have HV:Hid (voidF b hs=decide (leastF b hs=0)):=lh rfl
 have HR:=lh (h.below (ba w (.cells #[.slice B b.1.length d,.bool b.2] 45)))
 have HB:=lh (k.below (ba w (.cells #[.slice B b.1.length d,.bool b.2] 45)))
 clear h k hb hh
 generalize voidF b hs=v at *
 generalize leastF b hs=n at *
 go_enter Tryz.func75,Tryz.ntmps75
 go_wp2_with (go_at_call 113;refine (HL.out _ HR.out HB.out).mono ?_;rintro e w1 ⟨rfl,hb⟩;have HB1:=lh (go3 (ba _ _) hb);clear hb)
 go_ret
 refine ⟨?_,HB1.out⟩
 rw [HV.out]
 by_cases h0:n=0
 ·subst h0;rfl
 ·have e1:((n:Int)==0)=false:=by simp;omega
  simp [h0]
open Go.RowKit
def regE (b:Pn) (hs:List Pn):Int:=if checkP b.1 b.2=0 then (if (hs.all fun h=>checkP h.1 h.2==0)=true then (if 64<hs.length then 52 else 0) else 51) else 50
theorem all_take_no {hs:List Pn} {k:Nat} {p:Pn} (hp:hs[k]? = some p) (h:checkP p.1 p.2≠0):(hs.all fun h=>checkP h.1 h.2==0)=false:=by
 cases hq:hs.all fun h=>checkP h.1 h.2==0 with
 | false=>rfl
 | true =>
  have:=List.all_eq_true.1 hq p (mG hp)
  exact absurd (by simpa using this) h
set_option maxRecDepth 100000 in
theorem regCheck_any (B A:Option Addr) (d c:Nat) (b:Pn) (hs:List Pn) (w:World) (h:RT w B d b.1) (k:BT w A c hs) (hb:szP b) (hh:∀ q∈hs,szP q) :
 Calls Tryz.prog 43 #[.agg #[.slice B b.1.length d,.bool b.2,.slice A hs.length c]] w fun e w'=>e=.returned (.int .i64 (regE b hs))∧Below w.heap.size w w':=by
 have HR:=lh h
 have HH:=lh k
 have q1:=k.1
 have q2:=k.2.1
 have HSZ:=lh hh
 have HCB:=lh (fun W h=>check_any B d b.1 b.2 W h (fun x hx=>Nat.le_trans (hb.1 x hx) (by omega)))
 have HE:Hid (regE b hs=if checkP b.1 b.2=0 then (if (hs.all fun h=>checkP h.1 h.2==0)=true then (if 64<hs.length then 52 else 0) else 51) else 50):=lh rfl
 have HS:At (BB w [(w.heap.size,[.slice B b.1.length d,.bool b.2,.slice A hs.length c])]) (w.alloc (.cells #[.slice B b.1.length d,.bool b.2,.slice A hs.length c] 48)):=((BB.nil w).push [.slice B b.1.length d,.bool b.2,.slice A hs.length c] 48 rfl).at_
 clear h k hb hh
 generalize regE b hs=er at *
 generalize hcb:checkP b.1 b.2=cb at *
 by_cases h0:cb=0
 ·subst h0
  rw [if_pos rfl] at HE
  clear hcb
  go_enter Tryz.func43,Tryz.ntmps43
  go_upto_region 4 with (go_at_call 77;refine (HCB.out _ (HR.out.below bB)).mono ?_;rintro e w1 ⟨rfl,hb⟩;replace HS:=HS.go2 bB hb;clear hb;obtain ⟨a0,a1,a2⟩:=(HS.out.get 0 rfl).c3)
  clear a0 a1 a2
  go_loopw [12] (fun s wr=>∃ k:Nat,k≤hs.length∧s=.int .i64 k∧Hid (∀ j q,j<k→hs[j]? = some q→checkP q.1 q.2=0)∧Hid (BB w [(w.heap.size,[.slice B b.1.length d,.bool b.2,.slice A hs.length c])] wr)) (fun s _=>hs.length-(intOf s).toNat)
  case atStart=>exact ⟨0,Nat.zero_le _,rfl,lh (fun j q h=>by omega),lh HS.out⟩
  case round =>
   clear HS
   obtain ⟨k,hk,rfl,HG,HS0⟩:=hrel
   have HS:=HS0.out.at_
   clear HS0
   by_cases hlt:k<hs.length
   ·obtain ⟨p,hp⟩:∃ p,hs[k]? = some p:=⟨_,gE hlt⟩
    obtain ⟨b5,o,rfl,hb5,hc⟩:=(HH.out.below HS.out.low).2.2 (by omega)
    obtain ⟨C,n,x0,x1,x2⟩:=hc k p hp
    have HX2:=lh x2
    have HCP:=lh (fun W h=>check_any C n p.1 p.2 W h (fun x hx=>Nat.le_trans ((HSZ.out p (mG hp)).1 x hx) (by omega)))
    have HNO:Hid (checkP p.1 p.2≠0→er=51):=lh (fun hq=>by rw [HE.out,all_take_no hp hq];rfl)
    have HNX:Hid (checkP p.1 p.2=0→∀ j q,j<k+1→hs[j]? = some q→checkP q.1 q.2=0):=lh (fun hq j q hj hjq=>by
     rcases Nat.lt_or_ge j k with h1|h1
     ·exact HG.out j q h1 hjq
     ·obtain rfl:j=k:=by omega
      rw [hp] at hjq
      cases hjq
      exact hq)
    generalize checkP p.1 p.2=cp at *
    clear hc hp x2 HG
    by_cases hcp:cp=0
    ·have HG2:=lh (HNX.out hcp)
     subst hcp
     go_wp2_with (go_at_call 77;refine (HCP.out _ (HX2.out.below bB)).mono ?_;rintro e w1 ⟨rfl,hb⟩;replace HS:=HS.go2 bB hb;clear hb)
     go_roundw
     case rel=>exact ⟨k+1,by omega,by go_num,HG2,lh HS.out⟩
     case measure=>simp [intOf];omega
    ·have HF:=lh (HNO.out hcp)
     have e1:(cp != 0)=true:=by simpa using hcp
     go_wp2_with (go_at_call 77;refine (HCP.out _ (HX2.out.below bB)).mono ?_;rintro e w1 ⟨rfl,hb⟩;replace HS:=HS.go2 bB hb;clear hb)
     go_ret
     exact ⟨by rw [HF.out];rfl,HS.out.low⟩
   ·obtain rfl:k=hs.length:=by omega
    have hall:(hs.all fun h=>checkP h.1 h.2==0)=true:=List.all_eq_true.2 fun q hq=>by
     obtain ⟨j,hj⟩:=List.mem_iff_getElem?.1 hq
     simpa using HG.out j q (sI.1 hj).1 hj
    rw [hall,if_pos rfl] at HE
    obtain ⟨a0,a1,a2⟩:=(HS.out.get 0 rfl).c3
    clear hall HG
    by_cases h64:64<hs.length
    ·have e1:decide ((64:Int)<(hs.length:Int))=true:=by simp;omega
     rw [if_pos h64] at HE
     go_wp2_with fail
     go_ret
     exact ⟨by rw [HE.out];rfl,HS.out.low⟩
    ·have e1:decide ((64:Int)<(hs.length:Int))=false:=by simp;omega
     rw [if_neg h64] at HE
     go_wp2_with fail
     go_ret
     exact ⟨by rw [HE.out];rfl,HS.out.low⟩
 ·rw [if_neg h0] at HE
  have e1:(cb != 0)=true:=by simpa using h0
  go_enter Tryz.func43,Tryz.ntmps43
  go_wp2_with (go_at_call 77;refine (HCB.out _ (HR.out.below bB)).mono ?_;rintro e w1 ⟨rfl,hb⟩;replace HS:=HS.go2 bB hb;clear hb)
  go_ret
  exact ⟨by rw [HE.out];rfl,HS.out.low⟩
open Go.RowKit
theorem match_q (A:Option Addr) (c:Nat) (xs:List ByteArray) (r:Bool) (s:ByteArray) (w:World) (h:RT w A c xs) (hsz:∀ x∈xs,x.size≤9223372036854775807) (hs:s.size≤5000) (hm:ML w) :
 Calls Tryz.prog 70 #[.agg #[.slice A xs.length c,.bool r],.string s] w fun e w'=>∃ v,e=.returned (.tuple #[v,.bool (mt (xs,r) s)])∧Below w.heap.size w w' :=
 (match_any A c xs r s w h hsz hs hm).mono fun e w' h=>by
  show ∃ v,e=.returned (.tuple #[v,.bool (matchOk mpOk xs r s)])∧Below w.heap.size w w'
  cases hv:matchOk mpOk xs r s with
  | true =>
   obtain ⟨B,d,e,_,hb⟩:=h.1 hv
   exact ⟨_,e,hb⟩
  | false =>
   obtain ⟨e,hb⟩:=h.2 hv
   exact ⟨_,e,hb⟩
theorem has1_any (gs:Nat) (s:ByteArray) (w:World) (hs:BX w gs [.string s]) (hz:s.size≤5000) (hm:ML w) (W:World) (C:Option Addr) (m:Nat) (ys:List ByteArray) (t:Bool) (hW:Below w.heap.size w W) (h:RT w C m ys) (hy:∀ y∈ys,y.size≤5000) :
 Calls Tryz.prog 69 (#[.agg #[.slice C ys.length m,.bool t]]++#[.pointer (some ⟨gs,0,none⟩)]) W fun e w'=>e=.returned (.bool (mt (ys,t) s))∧Below w.heap.size w w':=by
 have HMT:=lh (fun W h hm=>match_q C m ys t s W h (fun y hh=>Nat.le_trans (hy y hh) (by omega)) hz hm)
 have HQ:At (fun w'=>BX w' W.heap.size [.slice C ys.length m,.bool t]∧BX w' gs [.string s]∧RT w' C m ys∧ML w'∧Below w.heap.size w w') (W.alloc (.cells #[.slice C ys.length m,.bool t] 45)) :=
  ⟨fun X Y h hb=>⟨h.1.below hb,h.2.1.below hb,h.2.2.1.below hb,h.2.2.2.1.below hb,go3 h.2.2.2.2 hb⟩,BX.new W _ _ rfl,(hs.below hW).below (ba _ _),(h.below hW).below (ba _ _),(hm.below hW).below (ba _ _),go3 hW (ba _ _)⟩
 have s0:=HQ.out.2.1.c1
 have hg:gs<W.heap.size:=Nat.lt_of_lt_of_le hs.2.2 hW.size
 clear hs hm hW h hy
 generalize mt (ys,t) s=q at *
 show Calls Tryz.prog 69 #[.agg #[.slice C ys.length m,.bool t],.pointer (some ⟨gs,0,none⟩)] W _
 go_enter Tryz.func69,Tryz.ntmps69
 go_wp2_with (go_at_call 70;refine (HMT.out _ HQ.out.2.2.1 HQ.out.2.2.2.1).mono ?_;rintro e w1 ⟨v,rfl,hb⟩;replace HQ:=HQ.go2 bB hb;clear hb)
 go_ret
 exact ⟨rfl,HQ.out.2.2.2.2⟩
def regH (b:Pn) (hs:List Pn) (s:ByteArray):Bool:=decide (regE b hs=0)&&(mt b s&&!hs.any (mt · s))
set_option maxRecDepth 100000 in
theorem has_any (B A:Option Addr) (d c:Nat) (b:Pn) (hs:List Pn) (s:ByteArray) (w:World) (h:RT w B d b.1) (k:BT w A c hs) (hb:szP b) (hh:∀ q∈hs,szP q) (hz:s.size≤5000) (hm:ML w) :
 Calls Tryz.prog 35 #[.agg #[.slice B b.1.length d,.bool b.2,.slice A hs.length c],.string s] w fun e w'=>e=.returned (.bool (regH b hs s))∧Below w.heap.size w w':=by
 have HR:=lh h
 have HH:=lh k
 have HM:=lh hm
 have HSH:=lh (fun q hq=>(hh q hq).1)
 have HSB:=lh hb.1
 have HCK:=lh (fun W h k=>regCheck_any B A d c b hs W h k hb hh)
 have HE:Hid (regH b hs s=(decide (regE b hs=0)&&(mt b s&&!hs.any (mt · s)))):=lh rfl
 have HS:At (BB w [(w.heap.size,[.slice B b.1.length d,.bool b.2,.slice A hs.length c]),(w.heap.size+1,[.string s])]) ((w.alloc (.cells #[.slice B b.1.length d,.bool b.2,.slice A hs.length c] 48)).alloc (.cells #[.string s] 9)) :=
  (((BB.nil w).push [.slice B b.1.length d,.bool b.2,.slice A hs.length c] 48 rfl).push [.string s] 9 (g:=w.heap.size+1) (by simp)).at_
 clear h k hb hh hm
 generalize regH b hs s=res at *
 generalize regE b hs=er at *
 by_cases h0:er=0
 ·subst h0
  rw [show decide ((0:Int)=0)=true from rfl,Bool.true_and] at HE
  go_enter Tryz.func35,Tryz.ntmps35
  go_upto_region 4 with (go_at_call 43;refine (HCK.out _ (HR.out.below bB) (HH.out.below bB)).mono ?_;rintro e w1 ⟨rfl,hb⟩;replace HS:=HS.go2 (Below.refl _ _) hb;clear hb;obtain ⟨a0,a1,a2⟩:=(HS.out.get 0 rfl).c3)
  have HP:=lh (fun W (hW:Below w1.heap.size w1 W)=>has1_any (w.heap.size+1) s w1 (HS.out.get 1 rfl) hz (HM.out.below HS.out.low) W B d b.1 b.2 hW (HR.out.below HS.out.low) HSB.out)
  have HC:Hid (∀ W,BX W (w.heap.size+1) [.string s]→BT W A c hs→ML W→Calls Tryz.prog 71 #[.slice A hs.length c,.func (.func 69) #[] #[.pointer (some ⟨w.heap.size+1,0,none⟩)]] W fun e w'=>e=.returned (.bool (hs.any (mt · s)))∧Below W.heap.size W w'):=lh (fun W h1 h2 h3=>by
   rcases Nat.eq_zero_or_pos hs.length with e|e
   ·obtain rfl:=List.eq_nil_of_length_eq_zero e
    exact containsP_none _ A c W
   ·exact containsP_any 69 _ (mt · s) A c hs W h2 HSH.out e (enters_of Tryz.func69 (by kernel_rfl) rfl) (fun W2 C n xs r hW hr hx=>has1_any (w.heap.size+1) s W h1 hz h3 W2 C n xs r hW hr hx))
  generalize hs.any (mt · s)=q at *
  generalize mt (b.1,b.2) s=p at *
  cases p with
  | false =>
   go_wp2_with (go_at_call 69;refine (HP.out _ bB).mono ?_;rintro e w2 ⟨rfl,hb⟩;replace HS:=HS.go2 (Below.refl _ _) hb;clear hb)
   go_ret
   exact ⟨by rw [HE.out];rfl,HS.out.low⟩
  | true =>
   go_wp2_with (first|(go_at_call 69;refine (HP.out _ bB).mono ?_;rintro e w2 ⟨rfl,hb⟩;replace HS:=HS.go2 (Below.refl _ _) hb;clear hb a0 a1 a2;obtain ⟨a0,a1,a2⟩:=(HS.out.get 0 rfl).c3)|(go_at_call 71;refine (HC.out _ (HS.out.get 1 rfl) (HH.out.below HS.out.low) (HM.out.below HS.out.low)).mono ?_;rintro e w3 ⟨rfl,hb⟩;replace HS:=HS.go2 (Below.refl _ _) hb;clear hb))
   go_ret
   exact ⟨by rw [HE.out];rfl,HS.out.low⟩
 ·rw [show decide (er=0)=false from decide_eq_false h0,Bool.false_and] at HE
  have e1:(er != 0)=true:=by simpa using h0
  go_enter Tryz.func35,Tryz.ntmps35
  go_wp2_with (go_at_call 43;refine (HCK.out _ (HR.out.below bB) (HH.out.below bB)).mono ?_;rintro e w1 ⟨rfl,hb⟩;replace HS:=HS.go2 (Below.refl _ _) hb;clear hb)
  go_ret
  exact ⟨by rw [HE.out];rfl,HS.out.low⟩
end Go.Proofs.YtelkmeiepliecaaGreatDoor
