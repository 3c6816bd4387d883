/-
  Part 32 of the proof.
-/
import Derived.Test.YtelkmeiepliecaaGreatDoorU31
set_option linter.unusedSimpArgs false
set_option linter.unusedVariables false
set_option maxHeartbeats 16000000
namespace Go.Proofs.YtelkmeiepliecaaGreatDoor
open Pm
open Go.RowKit Go.WideShapes
theorem empty_iff (s:ByteArray):s.toList.isEmpty=decide (s.size=0):=by
 rw [Lib.toList_data,Lib.size_eq]
 cases s.data.toList<;>simp
def oI (o:Option Nat):Int:=((o.getD 0:Nat):Int)
set_option maxRecDepth 100000 in
theorem parent_any (g m:Nat) (A:Option Addr) (c:Nat) (l:List St) (i:Nat) (w:World) (h:FO w g m A c l) (hi:i<l.length) (hl:l.length≤100) (hn:NmOk l) :
 Calls Tryz.prog 51 #[.pointer (some ⟨g,0,none⟩),.int .i64 i] w fun e w'=>e=.returned (.tuple #[.int .i64 (oI (parS l i)),.bool (parS l i).isSome])∧Below w.heap.size w w':=by
 obtain ⟨s,hs⟩:∃ s,l[i]? = some s:=⟨_,gE hi⟩
 obtain ⟨b,o,P,n,rfl,hbw,x0,x1,x2,-⟩:=h.2.1.at_ hs
 obtain ⟨y0,y1⟩:=h.1.c2
 have hsz:=(hn.at_ hs).2
 have q1:=h.2.1.1
 have q2:=h.2.1.2.1
 have hgw:=h.1.2.2
 have HP:Hid (parS l i=if s.2.1.size=0 then none else idxS l s.2.1):=lh (by unfold parS;rw [hs])
 have HQ:At (fun W=>FO W g m (some ⟨b,o,none⟩) c l) w:=⟨kept_fo _ _ _ _ _,h⟩
 clear h hn
 by_cases h0:s.2.1.size=0
 ·have he:s.2.1.toList.isEmpty=true:=by rw [empty_iff];simpa using h0
  have HR:Hid (parS l i=none):=lh (by rw [HP.out,if_pos h0])
  rw [HR.out]
  clear HP h0 hs
  go_enter Tryz.func51,Tryz.ntmps51
  go_wp2_with fail
  go_ret2
  exact ⟨rfl,bB⟩
 ·have he:s.2.1.toList.isEmpty=false:=by rw [empty_iff];simpa using h0
  have HR:Hid (parS l i=idxS l s.2.1):=lh (by rw [HP.out,if_neg h0])
  rw [HR.out]
  clear HP h0
  have HK:Hid (∀ W,FO W g m (some ⟨b,o,none⟩) c l→(W.cell? ⟨g,0,none⟩=some (.slice (some ⟨b,o,none⟩) l.length c)∧W.cell? ⟨g,1,none⟩=some (.map (some m)))):=lh (fun W h=>h.1.c2)
  cases hx:idxS l s.2.1 with
  | some j =>
   have HL:Hid (∀ W,FO W g m (some ⟨b,o,none⟩) c l→(Instr.lookup 64 (.map (some m)) (.string s.2.1) true).run Tryz.prog W=.ok (.tuple #[.int .i64 (j:Int),.bool true]) W):=lh (fun W h=>by
    have:=(h.lk hsz).1
    rw [hx] at this
    exact this)
   have HC:Hid (w.cell? ⟨b,o+i * 3+1,none⟩=some (.string s.2.1)):=lh x1
   clear hs hx
   show Calls _ _ _ _ fun e w'=>e=.returned (.tuple #[.int .i64 (j:Int),.bool true])∧Below w.heap.size w w'
   go_enter Tryz.func51,Tryz.ntmps51
   go_wp2_with fail
   go_region_held3 (fun W=>(W.cell? ⟨g,0,none⟩=some (.slice (some ⟨b,o,none⟩) l.length c)∧W.cell? ⟨g,1,none⟩=some (.map (some m)))∧W.cell? ⟨b,o+i * 3+1,none⟩=some (.string s.2.1)∧(Instr.lookup 64 (.map (some m)) (.string s.2.1) true).run Tryz.prog W=.ok (.tuple #[.int .i64 (j:Int),.bool true]) W)
    (exact ⟨HK.out _ (HQ.go (by repeat (first|with_reducible exact Below.refl _ _|with_reducible apply Below.drew|with_reducible apply below_drewN|with_reducible apply below_al))).out,((show Below w.heap.size w _ from (by repeat (first|with_reducible exact Below.refl _ _|with_reducible apply Below.drew|with_reducible apply below_drewN|with_reducible apply below_al))).cell (p:=⟨b,_,none⟩) hbw).trans HC.out,HL.out _ (HQ.go (by repeat (first|with_reducible exact Below.refl _ _|with_reducible apply Below.drew|with_reducible apply below_drewN|with_reducible apply below_al))).out⟩) (fail)
   all_goals
    go_wp2_with fail
    go_ret2
    exact ⟨rfl,bB⟩
  | none =>
   have HL:Hid (∀ W,FO W g m (some ⟨b,o,none⟩) c l→(Instr.lookup 64 (.map (some m)) (.string s.2.1) true).run Tryz.prog W=.ok (.tuple #[.int .i64 0,.bool false]) W):=lh (fun W h=>by
    have:=(h.lk hsz).1
    rw [hx] at this
    exact this)
   have HC:Hid (w.cell? ⟨b,o+i * 3+1,none⟩=some (.string s.2.1)):=lh x1
   clear hs hx
   show Calls _ _ _ _ fun e w'=>e=.returned (.tuple #[.int .i64 0,.bool false])∧Below w.heap.size w w'
   go_enter Tryz.func51,Tryz.ntmps51
   go_wp2_with fail
   go_region_held3 (fun W=>(W.cell? ⟨g,0,none⟩=some (.slice (some ⟨b,o,none⟩) l.length c)∧W.cell? ⟨g,1,none⟩=some (.map (some m)))∧W.cell? ⟨b,o+i * 3+1,none⟩=some (.string s.2.1)∧(Instr.lookup 64 (.map (some m)) (.string s.2.1) true).run Tryz.prog W=.ok (.tuple #[.int .i64 0,.bool false]) W)
    (exact ⟨HK.out _ (HQ.go (by repeat (first|with_reducible exact Below.refl _ _|with_reducible apply Below.drew|with_reducible apply below_drewN|with_reducible apply below_al))).out,((show Below w.heap.size w _ from (by repeat (first|with_reducible exact Below.refl _ _|with_reducible apply Below.drew|with_reducible apply below_drewN|with_reducible apply below_al))).cell (p:=⟨b,_,none⟩) hbw).trans HC.out,HL.out _ (HQ.go (by repeat (first|with_reducible exact Below.refl _ _|with_reducible apply Below.drew|with_reducible apply below_drewN|with_reducible apply below_al))).out⟩) (fail)
   all_goals
    go_wp2_with fail
    go_ret2
    exact ⟨rfl,bB⟩
def elI:El Nat where
 size:=1
 pos:=by decide
 R _ _ x r:=r=[.int .i64 (x:Int)]
 len k:=by rw [k];rfl
 one k u hu:=by
  rw [k] at hu
  rw [List.mem_singleton.1 hu]
  rfl
 ns k:=by rw [k];exact ns1 ns_int
 below k _:=k
 ch k _:=k
 fresh k:=k
 mono k _:=k
theorem elIT:ElT Tryz.prog 62 3 1:=⟨Tryz.underlying62,by
 have h:(Tryz.prog.info? 3).map (fun i=>(i.zero,i.size,i.bytes))=some (some (.int .i64 0),1,8):=by kernel_rfl
 obtain ⟨i0,hi,hz,hs,hb⟩:=info_parts h
 refine ⟨i0,_,hi,hz,hs,by omega,rfl,fun u hu=>?_⟩
 simp only [Value.cells,List.mem_cons,List.not_mem_nil,or_false] at hu
 rw [hu]
 intro x e
 cases e⟩
theorem SV.nat {w:World} {K:Nat→Prop} {A0:Option Addr} {c0:Nat} {m:List Nat} (h:SV elI w K A0 c0 m) {j x:Nat} (hx:m[j]? = some x):∃ b o,A0=some ⟨b,o,none⟩∧b<w.heap.size∧w.cell? ⟨b,o+j,none⟩=some (.int .i64 (x:Int)):=by
 obtain ⟨b,o,r,ea,hlt,hc,rfl⟩:=h.at_ hx
 have h0:=hc 0 _ rfl
 rw [show elI.size=1 from rfl,Nat.mul_one,Nat.add_zero] at h0
 exact ⟨b,o,ea,hlt,h0⟩
def restA (l:List St):Option Nat→Nat→List Nat
 | some p,n+1=>p::abvF l n p
 | _,_=>[]
theorem abv_rest (l:List St) (n i:Nat):abvF l n i=restA l (parS l i) n:=by
 cases n with
 | zero=>cases parS l i<;>rfl
 | succ n =>
  unfold abvF restA
  cases parS l i<;>rfl
theorem so_read {α:Type} {e:El α} {w:World} {base:Nat} {T:TypeId} {A:Option Addr} {c n:Nat} {xs:List α} (h:SO e w base T (.slice A n c) kN xs):SV e w kN A c xs:=by
 obtain ⟨A2,c2,e2,h2,_⟩:=h.read (fun _ _ h=>h)
 cases e2
 exact h2
def RetI (w:World) (xs:List Nat) (e:Ending) (w':World):Prop:=∃ A c,e=.returned (.slice A xs.length c)∧SV elI w' kN A c xs∧Below w.heap.size w w'
set_option maxRecDepth 100000 in
theorem above_any (g m:Nat) (A:Option Addr) (c:Nat) (l:List St) (i:Nat) (w:World) (h:FO w g m A c l) (hi:i<l.length) (hl:l.length≤100) (hn:NmOk l) :
 Calls Tryz.prog 20 #[.pointer (some ⟨g,0,none⟩),.int .i64 i] w (RetI w (abvS l i)):=by
 have HPR:=lh (fun j (hj:j<l.length) W (hW:Below w.heap.size w W)=>parent_any g m A c l j W (h.below hW) hj hl hn)
 have HQ0:=lh h
 have q1:=h.2.1.1
 have q2:=h.2.1.2.1
 have hgw:=h.1.2.2
 clear h hn
 go_enter Tryz.func20,Tryz.ntmps20
 go_wp2_with (go_at_call 51;refine (HPR.out i hi _ bB).mono ?_;rintro e w1 ⟨rfl,hb1⟩;have HB1:=lh hb1;clear hb1)
 go_loopw [5,6,7] (fun s5 s6 s7 wr=>∃ (o:Option Nat) (pre:List Nat) (A5:Option Addr) (c5:Nat),s5=.slice A5 pre.length c5∧s6=.int .i64 (oI o)∧s7=.bool o.isSome∧pre.length≤l.length∧Hid (SO elI wr w.heap.size 3 (.slice A5 pre.length c5) kN pre)∧Hid (Below w.heap.size w wr)∧Hid (abvS l i=pre++restA l o (l.length-pre.length)∧∀ p,o=some p→p<l.length)) (fun s5 s6 s7 _=>match s5 with|.slice _ n _=>l.length-n|_=>0)
 case atStart=>exact ⟨parS l i,[],none,0,rfl,rfl,rfl,Nat.zero_le _,lh (SO.nil _ _ _ _ _),HB1,lh ⟨by rw [List.nil_append,List.length_nil,Nat.sub_zero];exact abv_rest l l.length i,fun p hp=>parS_lt hp⟩⟩
 case round =>
  obtain ⟨o,pre,A5,c5,rfl,rfl,rfl,hpl,HSO,HB,HA⟩:=hrel
  have HQW:=HQ0.out.below HB.out
  obtain ⟨y0,y1⟩:=HQW.1.c2
  have hgr:=HQW.1.2.2
  cases o with
  | none =>
   have HR:Hid (abvS l i=pre):=lh (by have:=HA.out.1;unfold restA at this;simpa using this)
   go_wp2_with fail
   go_ret
   exact ⟨A5,c5,by rw [HR.out];rfl,by rw [HR.out];exact so_read HSO.out,HB.out⟩
  | some p =>
   have hp:=HA.out.2 p rfl
   by_cases hlt:pre.length<l.length
   ·have HR:Hid (abvS l i=(pre++[p])++restA l (parS l p) (l.length-(pre.length+1))):=lh (by
     have:=HA.out.1
     obtain ⟨d,hd⟩:∃ d,l.length-pre.length=d+1:=⟨l.length-pre.length-1,by omega⟩
     rw [hd] at this
     rw [this,show l.length-(pre.length+1)=d by omega,List.append_assoc]
     show pre++p::abvF l d p=_
     rw [abv_rest]
     rfl)
    have hpi:oI (some p)=(p:Int):=rfl
    rw [hpi] at *
    have hil:decide ((pre.length:Int)<(l.length:Int))=true:=by simpa using hlt
    clear HA hpi HQW
    go_wp2_with (first
     | (at_builtin;refine wpList_append_so1 elI elIT rfl _ _ rfl w.heap.size _ kN pre p [.int .i64 (p:Int)] wr.heap.size 1 rfl rfl (HSO.out.below (ba _ _)) rfl (cells_new _ [_] _ rfl) (by simp) (by omega) (by omega) (by omega) (by have:=HB.out.size;simp;omega) ?_;intro v8 w8 hso8 hg8 hor8;obtain ⟨A8,n8,c8,rfl,hn8l⟩:=so_shape hso8;have HSO8:=lh hso8;have HB8:=lh ((go3 HB.out (ba _ _)).grown hg8 (Nat.le_trans HB.out.size (by simp)) (fun j hj=>(HSO.out.own j hj).1));clear hso8 hg8 hor8)
     | (go_at_call 51;refine (HPR.out p hp _ (HB8.out)).mono ?_;rintro e w9 ⟨rfl,hb9⟩;have HSO9:=lh (HSO8.out.below hb9);have HB9:=lh (go3 HB8.out hb9);clear hb9))
    have e8:=hn8l.out
    rw [List.length_append] at e8
    go_roundw
    case rel =>
     refine ⟨parS l p,pre++[p],A8,c8,by rw [hn8l.out],rfl,rfl,by simp;omega,?_,HB9,?_⟩
     ·rw [←hn8l.out];exact HSO9
     ·exact lh ⟨by rw [HR.out,List.length_append];rfl,fun q hq=>parS_lt hq⟩
    case measure=>simp at e8 ⊢;omega
   ·have HR:Hid (abvS l i=pre):=lh (by
     have:=HA.out.1
     rw [show l.length-pre.length=0 by omega] at this
     unfold restA at this
     simpa using this)
    have hil:decide ((pre.length:Int)<(l.length:Int))=false:=by simpa using hlt
    go_wp2_with fail
    go_ret
    exact ⟨A5,c5,by rw [HR.out];rfl,by rw [HR.out];exact so_read HSO.out,HB.out⟩
open Pm
open Go.RowKit Go.WideShapes
theorem last_take {L:List Nat} {d k x:Nat} (h:L[k]? = some x):(L.take (k+1)).getLastD d=x:=by
 rw [List.take_add_one,h]
 simp
set_option maxRecDepth 100000 in
theorem top_any (g m:Nat) (A:Option Addr) (c:Nat) (l:List St) (i:Nat) (w:World) (h:FO w g m A c l) (hi:i<l.length) (hl:l.length≤100) (hn:NmOk l) :
 Calls Tryz.prog 142 #[.pointer (some ⟨g,0,none⟩),.int .i64 i] w fun e w'=>e=.returned (.int .i64 (topS l i:Int))∧Below w.heap.size w w':=by
 have HAB:=lh (fun W (hW:Below w.heap.size w W)=>above_any g m A c l i W (h.below hW) hi hl hn)
 have hln:(abvS l i).length≤100:=Nat.le_trans (abvF_len _ _) hl
 have HT:Hid (topS l i=(abvS l i).getLastD i):=lh rfl
 rw [HT.out]
 generalize abvS l i=L at *
 clear h hn HT
 go_enter Tryz.func142,Tryz.ntmps142
 go_wp2_with (go_at_call 20;refine (HAB.out _ bB).mono ?_;rintro e w1 ⟨A1,c1,rfl,hsv,hb1⟩;have HB1:=lh hb1;have HSV:=lh hsv;have q1:=hsv.lenc;have q2:=hsv.capc;clear hb1 hsv)
 go_loopw [1,9] (fun s1 s9 wr=>∃ k:Nat,k≤L.length∧s1=.int .i64 ((L.take k).getLastD i:Int)∧s9=.int .i64 k∧Hid (Below w.heap.size w wr∧Below w1.heap.size w1 wr)) (fun _ s9 _=>L.length-(intOf s9).toNat)
 case atStart=>exact ⟨0,Nat.zero_le _,rfl,rfl,lh ⟨HB1.out,Below.refl _ _⟩⟩
 case round =>
  obtain ⟨k,hk,rfl,rfl,HB⟩:=hrel
  by_cases hlt:k<L.length
  ·obtain ⟨x,hx⟩:∃ x,L[k]? = some x:=⟨_,gE hlt⟩
   obtain ⟨b,o,rfl,hbw,x0⟩:=(HSV.out.below HB.out.2).nat hx
   have HX:=lh (last_take (d:=i) hx)
   clear hx
   go_wp2_with fail
   go_roundw
   case rel=>exact ⟨k+1,by omega,by rw [HX.out],by go_num,HB⟩
   case measure=>simp [intOf];omega
  ·obtain rfl:k=L.length:=by omega
   have HX:Hid ((L.take L.length).getLastD i=L.getLastD i):=lh (by rw [List.take_length])
   rw [HX.out]
   go_wp2_with fail
   go_ret
   exact ⟨rfl,HB.out.1⟩
theorem imported_any (k:Int) (B A:Option Addr) (n d m c:Nat) (r t:Bool) (w:World) :
 Calls Tryz.prog 67 #[.agg #[.int .i64 k,.slice B n d,.bool r,.slice A m c,.bool t]] w fun e w'=>e=.returned (.agg #[.bool false,.slice B n d,.bool r,.slice A m c,.bool t])∧Below w.heap.size w w':=by
 go_enter Tryz.func67,Tryz.ntmps67
 go_wp2_with fail
 refine bodyPost_ret (v:=.agg #[.bool false,.slice B n d,.bool r,.slice A m c,.bool t]) (by simp [results,Tryz.results67,go_sem,World.cell?_alloc_new]) rfl ⟨rfl,bB⟩
theorem ownKind_any (k a:Int) (w:World) :
 Calls Tryz.prog 68 #[.int .i64 k,.int .i64 a] w fun e w'=>e=.returned (.int .i64 (ownK k a))∧w'=w:=by
 unfold ownK
 by_cases h1:k=1
 ·subst h1
  by_cases h2:a=1
  ·subst h2
   rw [if_pos ⟨rfl,rfl⟩]
   go_enter Tryz.func68,Tryz.ntmps68
   go_wp2_with fail
   go_ret
   exact ⟨rfl,rfl⟩
  ·rw [if_neg (fun h=>h2 h.2)]
   have hb:(a==1)=false:=by simpa using h2
   go_enter Tryz.func68,Tryz.ntmps68
   go_wp2_with fail
   go_ret
   exact ⟨rfl,rfl⟩
 ·rw [if_neg (fun h=>h1 h.1)]
  have hb:(k==1)=false:=by simpa using h1
  go_enter Tryz.func68,Tryz.ntmps68
  go_wp2_with fail
  go_ret
  exact ⟨rfl,rfl⟩
open Pm
open Go.RowKit Go.WideShapes
theorem first_cell {w:World} {A:Option Addr} {c:Nat} {xs:List ByteArray} (h:RT w A c xs) (h0:0<xs.length):∃ b o,A=some ⟨b,o,none⟩∧b<w.heap.size∧w.cell? ⟨b,o,none⟩=some (.string (xs.getD 0 ⟨#[]⟩)):=by
 obtain ⟨b,o,e,hlt,hc⟩:=h.2.2 h0
 refine ⟨b,o,e,hlt,?_⟩
 have:=hc 0 (xs.getD 0 ⟨#[]⟩) (by
  rw [gE h0]
  simp [h0])
 simpa using this
theorem view_eq (x:ByteArray):(x.toList==[118,105,101,119])=decide (x=viewN):=by
 rw [Lib.toList_data,Bool.eq_iff_iff,beq_iff_eq,decide_eq_true_eq]
 constructor
 ·intro h
  apply ByteArray.ext
  exact Array.ext' h
 ·intro h
  rw [h]
  rfl
set_option maxRecDepth 100000 in
theorem isPathLine_any (p:Ln) (B A:Option Addr) (d c:Nat) (w:World) (h:RT w B d p.2.1.1) (k:RT w A c p.2.2.1) (z1:szN 5000 p.2.1) (z2:szN 5000 p.2.2) (hm:ML w) :
 Calls Tryz.prog 141 #[.agg #[.int .i64 p.1,.slice B p.2.1.1.length d,.bool p.2.1.2,.slice A p.2.2.1.length c,.bool p.2.2.2]] w fun e w'=>e=.returned (.bool (lineOk p))∧Below w.heap.size w w':=by
 obtain ⟨kd,P,F⟩:=p
 simp only at h k z1 z2 ⊢
 have HCK:=lh (fun W (hW:Below w.heap.size w W)=>check_any B d P.1 P.2 W (h.below hW) (fun x hx=>Nat.le_trans (z1 x hx) (by omega)))
 have HRC:=lh (fun W (hW:Below w.heap.size w W)=>ruleCheck_any false B A d c P.1 F.1 P.2 F.2 W (h.below hW) (k.below hW) (hm.below hW) z1 z2)
 have HIM:=lh (fun W=>imported_any kd B A P.1.length d F.1.length c P.2 F.2 W)
 have HS:At (BN w [(w.heap.size,[.int .i64 kd,.slice B P.1.length d,.bool P.2,.slice A F.1.length c,.bool F.2])]) (w.alloc (.cells #[.int .i64 kd,.slice B P.1.length d,.bool P.2,.slice A F.1.length c,.bool F.2] 51)) :=
  ((BN.nil w).push [.int .i64 kd,.slice B P.1.length d,.bool P.2,.slice A F.1.length c,.bool F.2] 51 rfl (ns5 ns_int ns_slice ns_bool ns_slice ns_bool)).at_
 have HL:Hid (lineOk (kd,P,F)=(decide (checkP P.1 P.2=0)&&decide (P.1.getD 0 ⟨#[]⟩=viewN)&&(if kd=1∨kd=2∨kd=4 then decide (F.1.length=0)&&!F.2 else if kd=3 then decide (ruleE P.1 P.2 F.1 F.2=0)&&!decide (F.1.getD 0 ⟨#[]⟩=viewN) else false))):=lh rfl
 rw [HL.out]
 have q1:=h.2.1
 have q2:=k.2.1
 have q3:=h.1
 have q4:=k.1
 unfold ruV at HRC
 by_cases hc0:checkP P.1 P.2=0
 ·rw [hc0] at HCK
  have h0:=(check_zero hc0).1
  obtain ⟨b,o,rfl,hbw,x0⟩:=first_cell h h0
  have HX:=lh x0
  rw [decide_eq_true hc0,Bool.true_and]
  have hve:=view_eq (P.1.getD 0 ⟨#[]⟩)
  generalize P.1.getD 0 ⟨#[]⟩=x at *
  by_cases hx:x=viewN
  ·rw [decide_eq_true hx] at hve ⊢
   rw [Bool.true_and]
   subst hx
   have hve2:(!viewN.toList==[118,105,101,119])=false:=by rw [hve];rfl
   clear hc0 h z1 z2 hm hve HL
   obtain ⟨a0,a1,a2,a3,a4⟩:=(HS.out.get 0 rfl).c5
   have hl0:(((F.1.length:Nat):Int)==0)=decide (F.1.length=0):=by rw [Bool.eq_iff_iff];simp
   by_cases hk1:kd=1
   ·subst hk1
    rw [if_pos (by omega)]
    clear hl0
    go_enter Tryz.func141,Tryz.ntmps141
    go_wp2_with (first
     | (go_at_call 77;refine (HCK.out _ (HS.go bB).out.low).mono ?_;rintro e w1 ⟨rfl,hb1⟩;replace HS:=HS.go2 bB hb1;clear a0 a1 a2 a3 a4;obtain ⟨a0,a1,a2,a3,a4⟩:=(HS.out.get 0 rfl).c5;have x1:=(HS.out.low.cell (p:=⟨b,o,none⟩) hbw).trans HX.out;clear hb1))
    all_goals go_ret
    all_goals exact ⟨by simp_all,HS.out.low⟩
   ·by_cases hk2:kd=2
    ·subst hk2
     rw [if_pos (by omega)]
     clear hl0
     go_enter Tryz.func141,Tryz.ntmps141
     go_wp2_with (first
      | (go_at_call 77;refine (HCK.out _ (HS.go bB).out.low).mono ?_;rintro e w1 ⟨rfl,hb1⟩;replace HS:=HS.go2 bB hb1;clear a0 a1 a2 a3 a4;obtain ⟨a0,a1,a2,a3,a4⟩:=(HS.out.get 0 rfl).c5;have x1:=(HS.out.low.cell (p:=⟨b,o,none⟩) hbw).trans HX.out;clear hb1))
     all_goals go_ret
     all_goals exact ⟨by simp_all,HS.out.low⟩
    ·by_cases hk4:kd=4
     ·subst hk4
      rw [if_pos (by omega)]
      clear hl0
      go_enter Tryz.func141,Tryz.ntmps141
      go_wp2_with (first
       | (go_at_call 77;refine (HCK.out _ (HS.go bB).out.low).mono ?_;rintro e w1 ⟨rfl,hb1⟩;replace HS:=HS.go2 bB hb1;clear a0 a1 a2 a3 a4;obtain ⟨a0,a1,a2,a3,a4⟩:=(HS.out.get 0 rfl).c5;have x1:=(HS.out.low.cell (p:=⟨b,o,none⟩) hbw).trans HX.out;clear hb1))
      all_goals go_ret
      all_goals exact ⟨by simp_all,HS.out.low⟩
     ·rw [if_neg (by omega)]
      have e1:(kd==1)=false:=by simpa using hk1
      have e2:(kd==2)=false:=by simpa using hk2
      have e4:(kd==4)=false:=by simpa using hk4
      by_cases hk3:kd=3
      ·subst hk3
       rw [if_pos rfl]
       by_cases hr:ruleE P.1 P.2 F.1 F.2=0
       ·have HF0:=lh ((check_zero (ruleE_zero.1 hr).2.1).1)
        rw [decide_eq_true hr,Bool.true_and]
        rw [hr] at HRC
        have HK:=lh k
        obtain ⟨b2,o2,rfl,hbw2,x2⟩:=first_cell HK.out HF0.out
        have HX2:=lh x2
        have hf0:=HF0.out
        have hvf:=view_eq (F.1.getD 0 ⟨#[]⟩)
        generalize F.1.getD 0 ⟨#[]⟩=y at *
        by_cases hy:y=viewN
        ·subst hy
         rw [decide_eq_true rfl]
         clear hk1 hk2 hk4 e1 e2 e4 hl0 hvf x2 hr HK HF0
         go_enter Tryz.func141,Tryz.ntmps141
         go_wp2_with (first
          | (go_at_call 77;refine (HCK.out _ (HS.go bB).out.low).mono ?_;rintro e w1 ⟨rfl,hb1⟩;replace HS:=HS.go2 bB hb1;clear a0 a1 a2 a3 a4;obtain ⟨a0,a1,a2,a3,a4⟩:=(HS.out.get 0 rfl).c5;have x1:=(HS.out.low.cell (p:=⟨b,o,none⟩) hbw).trans HX.out;clear hb1)
          | (go_at_call 67;refine (HIM.out _).mono ?_;rintro e w2 ⟨rfl,hb2⟩;replace HS:=HS.go2 bB hb2;clear hb2)
          | (go_at_call 60;refine (HRC.out _ (HS.go bB).out.low).mono ?_;rintro e w3 ⟨rfl,hb3⟩;replace HS:=HS.go2 bB hb3;clear a0 a1 a2 a3 a4;obtain ⟨a0,a1,a2,a3,a4⟩:=(HS.out.get 0 rfl).c5;have x3:=(HS.out.low.cell (p:=⟨b2,o2,none⟩) hbw2).trans HX2.out;clear hb3))
         all_goals go_ret
         all_goals exact ⟨rfl,HS.out.low⟩
        ·rw [decide_eq_false hy] at hvf ⊢
         have hvf2:(!y.toList==[118,105,101,119])=true:=by rw [hvf];rfl
         clear hk1 hk2 hk4 e1 e2 e4 hl0 x2 hr HK HF0 hy
         go_enter Tryz.func141,Tryz.ntmps141
         go_wp2_with (first
          | (go_at_call 77;refine (HCK.out _ (HS.go bB).out.low).mono ?_;rintro e w1 ⟨rfl,hb1⟩;replace HS:=HS.go2 bB hb1;clear a0 a1 a2 a3 a4;obtain ⟨a0,a1,a2,a3,a4⟩:=(HS.out.get 0 rfl).c5;have x1:=(HS.out.low.cell (p:=⟨b,o,none⟩) hbw).trans HX.out;clear hb1)
          | (go_at_call 67;refine (HIM.out _).mono ?_;rintro e w2 ⟨rfl,hb2⟩;replace HS:=HS.go2 bB hb2;clear hb2)
          | (go_at_call 60;refine (HRC.out _ (HS.go bB).out.low).mono ?_;rintro e w3 ⟨rfl,hb3⟩;replace HS:=HS.go2 bB hb3;clear a0 a1 a2 a3 a4;obtain ⟨a0,a1,a2,a3,a4⟩:=(HS.out.get 0 rfl).c5;have x3:=(HS.out.low.cell (p:=⟨b2,o2,none⟩) hbw2).trans HX2.out;clear hb3))
         all_goals go_ret
         all_goals exact ⟨rfl,HS.out.low⟩
       ·rw [decide_eq_false hr,Bool.false_and]
        have hre:(ruleE P.1 P.2 F.1 F.2==0)=false:=by simpa using hr
        generalize ruleE P.1 P.2 F.1 F.2=re at *
        clear hk1 hk2 hk4 e1 e2 e4 hl0 hr
        go_enter Tryz.func141,Tryz.ntmps141
        go_wp2_with (first
         | (go_at_call 77;refine (HCK.out _ (HS.go bB).out.low).mono ?_;rintro e w1 ⟨rfl,hb1⟩;replace HS:=HS.go2 bB hb1;clear a0 a1 a2 a3 a4;obtain ⟨a0,a1,a2,a3,a4⟩:=(HS.out.get 0 rfl).c5;have x1:=(HS.out.low.cell (p:=⟨b,o,none⟩) hbw).trans HX.out;clear hb1)
         | (go_at_call 67;refine (HIM.out _).mono ?_;rintro e w2 ⟨rfl,hb2⟩;replace HS:=HS.go2 bB hb2;clear hb2)
         | (go_at_call 60;refine (HRC.out _ (HS.go bB).out.low).mono ?_;rintro e w3 ⟨rfl,hb3⟩;replace HS:=HS.go2 bB hb3;clear hb3))
        all_goals go_ret
        all_goals exact ⟨rfl,HS.out.low⟩
      ·have e3:(kd==3)=false:=by simpa using hk3
       rw [if_neg hk3]
       clear hl0 hk1 hk2 hk4 hk3
       go_enter Tryz.func141,Tryz.ntmps141
       go_wp2_with (first
        | (go_at_call 77;refine (HCK.out _ (HS.go bB).out.low).mono ?_;rintro e w1 ⟨rfl,hb1⟩;replace HS:=HS.go2 bB hb1;clear a0 a1 a2 a3 a4;obtain ⟨a0,a1,a2,a3,a4⟩:=(HS.out.get 0 rfl).c5;have x1:=(HS.out.low.cell (p:=⟨b,o,none⟩) hbw).trans HX.out;clear hb1))
       all_goals go_ret
       all_goals exact ⟨rfl,HS.out.low⟩
  ·rw [decide_eq_false hx] at hve ⊢
   rw [Bool.false_and]
   have hve2:(!x.toList==[118,105,101,119])=true:=by rw [hve];rfl
   clear hc0 h k z1 z2 hm HL hx
   obtain ⟨a0,a1,a2,a3,a4⟩:=(HS.out.get 0 rfl).c5
   go_enter Tryz.func141,Tryz.ntmps141
   go_wp2_with (first
    | (go_at_call 77;refine (HCK.out _ (HS.go bB).out.low).mono ?_;rintro e w1 ⟨rfl,hb1⟩;replace HS:=HS.go2 bB hb1;clear a0 a1 a2 a3 a4;obtain ⟨a0,a1,a2,a3,a4⟩:=(HS.out.get 0 rfl).c5;have x1:=(HS.out.low.cell (p:=⟨b,o,none⟩) hbw).trans HX.out;clear hb1))
   all_goals go_ret
   all_goals exact ⟨rfl,HS.out.low⟩
 ·rw [decide_eq_false hc0,Bool.false_and,Bool.false_and]
  have hce:(!checkP P.1 P.2==0)=true:=by simpa using hc0
  generalize checkP P.1 P.2=ce at *
  have hce2:(ce != 0)=true:=hce
  clear hc0 h k z1 z2 hm HL
  obtain ⟨a0,a1,a2,a3,a4⟩:=(HS.out.get 0 rfl).c5
  go_enter Tryz.func141,Tryz.ntmps141
  go_wp2_with (first
   | (go_at_call 77;refine (HCK.out _ (HS.go bB).out.low).mono ?_;rintro e w1 ⟨rfl,hb1⟩;replace HS:=HS.go2 bB hb1;clear hb1))
  all_goals go_ret
  all_goals exact ⟨rfl,HS.out.low⟩
end Go.Proofs.YtelkmeiepliecaaGreatDoor
