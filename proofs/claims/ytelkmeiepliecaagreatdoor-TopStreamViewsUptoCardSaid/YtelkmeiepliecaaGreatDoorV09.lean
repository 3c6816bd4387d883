/-
  Part 9 of the proof.
-/
import Derived.Test.YtelkmeiepliecaaGreatDoorV08
set_option linter.unusedSimpArgs false
set_option linter.unusedVariables false
set_option maxHeartbeats 16000000
namespace Go.Proofs.YtelkmeiepliecaaGreatDoor
open Go.RowKit
open Pm
def eB:ByteArray:=⟨#[]⟩
def trB (x y:ByteArray):ByteArray:=mkB (Lib.trimSuffix y.data.toList (tlB x).data.toList)
def starI (xs:List ByteArray) (k:Nat):List Nat:=(List.range k).filter (fun i=>stB (xs.getD i eB))
theorem starI_step (xs:List ByteArray) {k:Nat} {x:ByteArray} (h:xs[k]? = some x):starI xs (k+1)=starI xs k++(if stB x=true then [k] else []):=by
 unfold starI
 rw [List.range_succ,List.filter_append]
 refine congrArg _ ?_
 have e:xs.getD k eB=x:=by rw [List.getD,h];rfl
 by_cases hs:stB x=true
 ·rw [if_pos hs,List.filter_cons_of_pos (by rw [e];exact hs)];rfl
 ·rw [if_neg hs,List.filter_cons_of_neg (by rw [e];exact hs)];rfl
theorem starI_lt {xs:List ByteArray} {k i:Nat} (h:i∈starI xs k):i<k∧stB (xs.getD i eB)=true:=by
 unfold starI at h
 rw [List.mem_filter,List.mem_range] at h
 exact h
theorem starI_len (xs:List ByteArray) (k:Nat):(starI xs k).length≤k:=by
 unfold starI
 have:=List.length_filter_le (fun i=>stB (xs.getD i eB)) (List.range k)
 rwa [List.length_range] at this
def bindI (xs ys:List ByteArray) (k:Nat):List (List ByteArray×Bool):=(starI xs k).map (fun i=>([trB (xs.getD i eB) (ys.getD i eB)],false))
def bindB (xs ys:List ByteArray) (r t:Bool):List (List ByteArray×Bool):=bindI xs ys xs.length++if r=true then [(ys.drop xs.length,t)] else []
def tz (xs ys:List ByteArray) (k:Nat):List ByteArray:=((xs.zip ys).take k).map (fun p=>if stB p.1=true then trB p.1 p.2 else p.2)++ys.drop k
theorem tz_zero (xs ys:List ByteArray):tz xs ys 0=ys:=by simp [tz]
theorem tz_pre {xs ys:List ByteArray} {k:Nat} (hx:k≤xs.length) (hy:k≤ys.length):(((xs.zip ys).take k).map (fun p=>if stB p.1=true then trB p.1 p.2 else p.2)).length=k:=by
 rw [List.length_map,List.length_take,List.length_zip]
 omega
theorem tz_len {xs ys:List ByteArray} {k:Nat} (hx:k≤xs.length) (hy:k≤ys.length):(tz xs ys k).length=ys.length:=by
 unfold tz
 rw [List.length_append,tz_pre hx hy,List.length_drop]
 omega
theorem tz_hi {xs ys:List ByteArray} {k i:Nat} (hx:k≤xs.length) (hy:k≤ys.length) (h:k≤i):(tz xs ys k)[i]? = ys[i]? := by
 unfold tz
 rw [List.getElem?_append_right (by rw [tz_pre hx hy];exact h),tz_pre hx hy,List.getElem?_drop,show k+(i-k)=i by omega]
theorem tz_lo {xs ys:List ByteArray} {k i:Nat} {x y:ByteArray} (hx:k≤xs.length) (hy:k≤ys.length) (h:i<k) (h1:xs[i]? = some x) (h2:ys[i]? = some y) (hs:stB x=true):(tz xs ys k)[i]? = some (trB x y):=by
 unfold tz
 rw [List.getElem?_append_left (by rw [tz_pre hx hy];exact h),List.getElem?_map,List.getElem?_take,if_pos h,zip_get h1 h2]
 simp [hs]
theorem tz_drop {xs ys:List ByteArray} {k:Nat} (hx:k≤xs.length) (hy:k≤ys.length):(tz xs ys k).drop k=ys.drop k:=by
 unfold tz
 rw [List.drop_left' (tz_pre hx hy)]
theorem tz_step {xs ys:List ByteArray} {k:Nat} {x y:ByteArray} (hx:xs[k]? = some x) (hy:ys[k]? = some y) :
 (stB x=true→(tz xs ys k).set k (trB x y)=tz xs ys (k+1))∧(stB x=false→tz xs ys (k+1)=tz xs ys k):=by
 have h1:=(sI.1 hx).1
 have h2:=(sI.1 hy).1
 have hp:=tz_pre (xs:=xs) (ys:=ys) (k:=k) (by omega) (by omega)
 have hd:ys.drop k=y::ys.drop (k+1):=drop_cons hy
 refine ⟨fun hs=>?_,fun hs=>?_⟩
 ·unfold tz
  rw [List.set_append_right _ _ (by omega),hp,Nat.sub_self,hd,List.set_cons_zero,List.take_add_one,zip_get hx hy,List.map_append]
  simp [hs]
 ·unfold tz
  rw [hd,List.take_add_one,zip_get hx hy,List.map_append]
  simp [hs]
theorem RT.at {w:World} {base g n cap:Nat} {xs:List ByteArray} (h:OT w base (.slice (some ⟨g,0,none⟩) n cap) xs) {i:Nat} {z:ByteArray} (hz:xs[i]? = some z):RT w (some ⟨g,i,none⟩) 1 [z]:=by
 obtain ⟨c1,c2,c3,c4,-,-,-⟩:=h.cell hz
 refine ⟨Nat.le_refl _,by omega,fun _=>⟨g,i,rfl,c4,fun j u hj=>?_⟩⟩
 rcases j with _|j
 ·simp at hj
  subst hj
  exact c1
 ·simp at hj
theorem RT.from {w:World} {base g n cap:Nat} {xs:List ByteArray} (h:OT w base (.slice (some ⟨g,0,none⟩) n cap) xs) (k c:Nat) (hc:xs.length-k≤c) (hc2:c≤9223372036854775807):RT w (some ⟨g,k,none⟩) c (xs.drop k):=by
 refine ⟨by rw [List.length_drop];exact hc,hc2,fun h0=>?_⟩
 rw [List.length_drop] at h0
 obtain ⟨z,hz⟩:∃ z,xs[k]? = some z:=⟨_,gE (by omega)⟩
 obtain ⟨-,-,-,c4,-,-,-⟩:=h.cell hz
 refine ⟨g,k,rfl,c4,fun j u hj=>?_⟩
 rw [List.getElem?_drop] at hj
 exact (h.cell hj).1
theorem OT.away {w:World} {base:Nat} {v:Value} {xs:List ByteArray} {w':World} {row:Option Nat} (h:OT w base v xs) (hg:w.grownBy w' row) (hne:v.ownBlock=none∨v.ownBlock≠row):OT w' base v xs:=h.kept hg hne
def bvI (g:Nat) (xs:List ByteArray) (k:Nat):List (Option Addr×Nat×Nat×Bool):=(starI xs k).map (fun i=>(some ⟨g,i,none⟩,1,1,false))
theorem bvI_step {g:Nat} {xs:List ByteArray} {k:Nat} {x:ByteArray} (h:xs[k]? = some x):bvI g xs (k+1)=bvI g xs k++(if stB x=true then [(some ⟨g,k,none⟩,1,1,false)] else []):=by
 unfold bvI
 rw [starI_step xs h,List.map_append]
 refine congrArg _ ?_
 by_cases hs:stB x=true
 ·rw [if_pos hs,if_pos hs];rfl
 ·rw [if_neg hs,if_neg hs];rfl
theorem bvI_len (g:Nat) (xs:List ByteArray) (k:Nat):(bvI g xs k).length=(starI xs k).length:=by simp [bvI]
theorem bind_rows {w:World} {base g n cap:Nat} {xs ys:List ByteArray} (h:OT w base (.slice (some ⟨g,0,none⟩) n cap) (tz xs ys xs.length)) (hl:xs.length≤ys.length) :
 ∀ (j:Nat) (p:Option Addr×Nat×Nat×Bool) (q:List ByteArray×Bool),(bvI g xs xs.length)[j]? = some p→(bindI xs ys xs.length)[j]? = some q→p.2.1=q.1.length∧p.2.2.2=q.2∧RT w p.1 p.2.2.1 q.1:=by
 intro j p q hp hq
 unfold bvI at hp
 unfold bindI at hq
 rw [List.getElem?_map] at hp hq
 obtain ⟨i,hi,rfl⟩:=Option.map_eq_some_iff.1 hp
 rw [hi] at hq
 obtain rfl:=Option.some.inj hq
 obtain ⟨h1,h2⟩:=starI_lt (mG hi)
 obtain ⟨x,hx⟩:∃ x,xs[i]? = some x:=⟨_,gE h1⟩
 obtain ⟨y,hy⟩:∃ y,ys[i]? = some y:=⟨_,gE (by omega)⟩
 have ex:xs.getD i eB=x:=by rw [List.getD,hx];rfl
 have ey:ys.getD i eB=y:=by rw [List.getD,hy];rfl
 rw [ex] at h2
 refine ⟨rfl,rfl,?_⟩
 show RT w (some ⟨g,i,none⟩) 1 [trB (xs.getD i eB) (ys.getD i eB)]
 rw [ex,ey]
 exact RT.at h (tz_lo (Nat.le_refl _) hl h1 hx hy h2)
theorem bindI_len (xs ys:List ByteArray) (k:Nat):(bindI xs ys k).length=(starI xs k).length:=by simp [bindI]
theorem bind_done0 {w:World} {base g n cap:Nat} {v:Value} {xs ys:List ByteArray} {t:Bool} (h:OT w base (.slice (some ⟨g,0,none⟩) n cap) (tz xs ys xs.length)) (hl:xs.length≤ys.length) (hv:OB w base v (bvI g xs xs.length)) :
 ∃ A c,v=.slice A (bindB xs ys false t).length c∧BT w A c (bindB xs ys false t):=by
 unfold bindB
 rw [if_neg (by decide),List.append_nil]
 exact BT.of hv (by rw [bvI_len,bindI_len]) (bind_rows h hl)
theorem bind_done1 {w:World} {base g n cap:Nat} {v:Value} {xs ys:List ByteArray} {t:Bool} {C:Option Addr} {m:Nat} (h:OT w base (.slice (some ⟨g,0,none⟩) n cap) (tz xs ys xs.length)) (hl:xs.length≤ys.length)
 (hv:OB w base v (bvI g xs xs.length++[(C,ys.length-xs.length,m,t)])) (hr:RT w C m (ys.drop xs.length)) :
 ∃ A c,v=.slice A (bindB xs ys true t).length c∧BT w A c (bindB xs ys true t):=by
 unfold bindB
 rw [if_pos rfl]
 refine BT.of hv (by rw [List.length_append,List.length_append,bvI_len,bindI_len];rfl) (fun j p q hp hq=>?_)
 have hb:=bvI_len g xs xs.length
 have hi:=bindI_len xs ys xs.length
 rcases Nat.lt_or_ge j (starI xs xs.length).length with hj|hj
 ·rw [List.getElem?_append_left (by omega)] at hp hq
  exact bind_rows h hl j p q hp hq
 ·rw [List.getElem?_append_right (by omega)] at hp hq
  rw [hb] at hp
  rw [hi] at hq
  generalize j-(starI xs xs.length).length=i at hp hq
  rcases i with _|i
  ·simp at hp hq
   subst hp
   subst hq
   exact ⟨by simp,rfl,hr⟩
  ·simp at hp
def RetBT (w:World) (bs:List (List ByteArray×Bool)) (ok:Bool) (e:Ending) (w':World):Prop :=
 ∃ A c,e=.returned (.tuple #[.slice A bs.length c,.bool ok])∧BT w' A c bs∧Below w.heap.size w w'
theorem BT.nil (w:World):BT w none 0 []:=⟨Nat.le_refl _,by omega,fun h=>absurd h (Nat.lt_irrefl 0)⟩
theorem bind_no (A B:Option Addr) (c d:Nat) (xs ys:List ByteArray) (r t:Bool) (w:World) (h:RT w A c xs) (k:RT w B d ys) (hm:ML w)
 (hsx:∀ x∈xs,x.size≤9223372036854775807) (hsy:∀ x∈ys,x.size≤9223372036854775807) (hw:withinOk insB ys xs t r=false) :
 Calls Tryz.prog 88 #[.agg #[.slice A xs.length c,.bool r],.agg #[.slice B ys.length d,.bool t]] w (RetBT w [] false):=by
 have HI:=P2.enter h k hm r t 45
 have HW:=lh (fun w h k=>within_any B A d c ys xs t r w h k hsy hsx)
 rw [hw] at HW
 clear h k hm hsx hsy hw
 go_enter Tryz.func88,Tryz.ntmps88
 go_wp2_with (go_at_call 122;refine (HW.out _ (P2.y (HI.go bB)) (P2.x (HI.go bB))).mono ?_;rintro e w1 ⟨rfl,hb⟩;replace HI:=HI.go2 bB hb;clear hb)
 go_ret2
 exact ⟨none,0,rfl,BT.nil _,P2.b HI⟩
theorem trimSuf_any (x y:ByteArray) (w:World) (hy:y.size≤9223372036854775807) :
 Calls Tryz.prog 123 #[.string y,.string (x.extract 1 x.size)] w fun e w'=>e=.returned (.string (trB x y))∧w=w':=trimSuffix_any y (tlB x) w hy
theorem PX.newAt {w:World} {g:Nat} {u v:Value} {t:TypeId} (hg:g=w.heap.size):(w.alloc (.cells #[u,v] t)).cell? ⟨g,0,none⟩=some u∧(w.alloc (.cells #[u,v] t)).cell? ⟨g,1,none⟩=some v:=by
 subst hg
 exact ⟨(PX.new w u v t).1,(PX.new w u v t).2.1⟩
theorem bind_rest (A B:Option Addr) (c d:Nat) (xs ys:List ByteArray) (t:Bool) (w:World) (h:RT w A c xs) (k:RT w B d ys) (hm:ML w)
 (hsx:∀ x∈xs,x.size≤9223372036854775807) (hsy:∀ x∈ys,x.size≤9223372036854775807) (hw:withinOk insB ys xs t true=true) :
 Calls Tryz.prog 88 #[.agg #[.slice A xs.length c,.bool true],.agg #[.slice B ys.length d,.bool t]] w (RetBT w (bindB xs ys true t) true):=by
 have hwi:=hw
 unfold withinOk insideOk at hwi
 rw [Bool.and_eq_true,Bool.and_eq_true,Bool.and_eq_true,beq_iff_eq,beq_iff_eq] at hwi
 have hle:=lensIn_le hwi.2.2.1
 have hx12:=(check_zero hwi.2.1).2.1
 have hy12:=(check_zero hwi.1).2.1
 have hx0:=(check_zero hwi.2.1).1
 have HI:=P2.enter h k hm true t 45
 have HW:=lh (fun w h k=>within_any B A d c ys xs t true w h k hsy hsx)
 have HCL:=lh (fun W (h:RT W B d ys)=>clone_any B d ys W h (by omega) (by omega))
 rw [hw] at HW
 have HSX:=lh hsx
 have HSY:=lh hsy
 have hx1:=h.1
 have hx2:=h.2.1
 have hy1:=k.1
 have hy2:=k.2.1
 clear h k hm hsx hsy hw hwi
 go_enter Tryz.func88,Tryz.ntmps88
 go_wp2_with (first
  | (go_at_call 122;refine (HW.out _ (P2.y (HI.go bB)) (P2.x (HI.go bB))).mono ?_;rintro e w1 ⟨rfl,hb⟩;replace HI:=HI.go2 bB hb;clear hb;obtain ⟨p1,p2,q1,q2⟩:=P2.cells HI)
  | (go_at_call 85;refine (HCL.out _ (P2.y (HI.go bB))).mono ?_;rintro e w2 ⟨g,cap,rfl,hoc,hb⟩;have HOC:=lh hoc;have HBC:=lh hb;obtain ⟨p1,p2,q1,q2⟩:=P2.cells (HI.go hb);clear hoc hb))
 have hcap:=(HOC.out.block (by omega))
 obtain ⟨g',cap',e',hg1,hg2,hc1,hc2⟩:=hcap
 obtain ⟨e1,-,e3⟩:=Value.slice.inj e'
 have e4:g=g':=by have:=Option.some.inj e1;exact congrArg Addr.block this
 subst e4
 subst e3
 clear e' e1
 go_loopw [7,21] (fun bvv i wr=>∃ k:Nat,k≤xs.length∧i=.int .i64 k∧Hid (OT wr w1.heap.size (.slice (some ⟨g,0,none⟩) ys.length cap) (tz xs ys k))∧Hid (OB wr w1.heap.size bvv (bvI g xs k))∧Hid (bvv.ownBlock≠some g)∧Hid (Below w1.heap.size w1 wr)∧Hid (g<wr.heap.size)) (fun _ i _=>xs.length-(intOf i).toNat)
 case atStart=>exact ⟨0,Nat.zero_le _,rfl,lh (by rw [tz_zero];exact HOC.out),lh (OB.nil _ _),lh (by simp [Value.ownBlock]),HBC,lh hg2⟩
 case round =>
  obtain ⟨k,hk,rfl,HO,HV,HNE,HBL,HGL⟩:=hrel
  have HJ:=HI.go HBL.out
  have hsz:=HBL.out.size
  obtain ⟨p1,p2,q1,q2⟩:=P2.cells HJ
  by_cases hlt:k<xs.length
  ·obtain ⟨x,hx⟩:∃ x,xs[k]? = some x:=⟨_,gE hlt⟩
   obtain ⟨y,hy⟩:∃ y,ys[k]? = some y:=⟨_,gE (by omega)⟩
   obtain ⟨b1,o1,rfl,hb1,hc1'⟩:=(P2.x HJ).2.2 (by omega)
   have hcx:=hc1' k x hx
   have hyz:=HSY.out y (mG hy)
   obtain ⟨hct,hft,-,-,-,-,-⟩:=HO.out.cell ((tz_hi (by omega) (by omega) (Nat.le_refl k)).trans hy)
   have HST:=lh (tz_step hx hy)
   have HBS:=lh (bvI_step (g:=g) hx)
   have HTL:Hid (k<(tz xs ys k).length):=lh (by rw [tz_len (by omega) (by omega)];omega)
   have HBN:Hid ((bvI g xs k).length≤100):=lh (by rw [bvI_len];have:=starI_len xs k;omega)
   have hxz:=HSX.out x (mG hx)
   clear hc1' hx hy hb1
   cases hs:stB x with
   | false =>
    rw [hs] at HBS
    simp only [Bool.false_eq_true,if_false,List.append_nil] at HBS
    go_wp2_with (go_at_call 97;refine (isStar_any x _).mono ?_;rintro e w' ⟨rfl,rfl⟩)
    go_roundw
    case rel=>exact ⟨k+1,by omega,by go_num,lh (by rw [HST.out.2 hs];exact HO.out),lh (by rw [HBS.out];exact HV.out),HNE,HBL,HGL⟩
    case measure=>simp [intOf];omega
   | true =>
    have hpos:=stB_pos hs
    rw [hs] at HBS
    simp only [if_true] at HBS
    have HTS:=lh (fun W=>trimSuf_any x y W hyz)
    have hky:k<ys.length:=by omega
    have hkc:k+1≤cap:=by omega
    have hpI:(1:Int)≤(x.size:Int):=by omega
    have HST1:=lh (HST.out.1 hs)
    clear HST
    generalize trB x y=z at *
    go_wp2_with (go_at_call 97;refine (isStar_any x _).mono ?_;rintro e w' ⟨rfl,rfl⟩)
    go_region_law (first|(go_simp;go_at_call 123;refine (HTS.out _).mono ?_;rintro e w' ⟨rfl,rfl⟩))
    have HO1:=lh (HO.out.set HTL.out z)
    have HV1:=lh (HV.out.other (p:=⟨g,k,none⟩) HNE.out (.string z))
    have hgl:=HGL.out
    go_wp2_with (at_builtin;refine wpList_append_bind rfl _ _ rfl w1.heap.size _ (bvI g xs k) wr.heap.size 1 (some ⟨g,k,none⟩,1,1,false) rfl rfl (HV1.out.below bB) (by simpa using (PX.newAt (w:=wr.setCell ⟨g,k,none⟩ (.string z)) (g:=wr.heap.size) (u:=.slice (some ⟨g,k,none⟩) 1 1) (v:=.bool false) (t:=202) (by simp)).1) (by simpa using (PX.newAt (w:=wr.setCell ⟨g,k,none⟩ (.string z)) (g:=wr.heap.size) (u:=.slice (some ⟨g,k,none⟩) 1 1) (v:=.bool false) (t:=202) (by simp)).2) (by have:=HBN.out;omega) (by simp;omega) ?_;intro v1 w3 hov hg hor;have hwz:=hg.size;have HOW:=lh ((HO1.out.below (by repeat (first|exact Below.refl _ _|apply Below.drew|apply below_al))).away hg (.inr (fun e=>HNE.out e.symm)));have HVW:=lh hov;have HNW:Hid (v1.ownBlock≠some g):=lh (by rcases hor with e|e<;>rw [e];exact HNE.out;intro e2;simp at e2;omega);have HBW:=lh ((((HBL.out.setCell (p:=⟨g,k,none⟩) hg1 _).alloc (by simp;omega) _).drew).grown hg (by simp;omega) (fun k' hk'=>(HV.out.own k' hk').1));have HGW:Hid (g<w3.heap.size):=lh (by simp at hwz;omega);clear hov hg hor hwz)
    go_roundw
    case rel=>exact ⟨k+1,by omega,by go_num,lh (by rw [←HST1.out];exact HOW.out),lh (by rw [HBS.out];exact HVW.out),HNW,HBW,HGW⟩
    case measure=>simp [intOf];omega
  ·obtain rfl:k=xs.length:=by omega
   have HBN:Hid ((bvI g xs xs.length).length≤100):=lh (by rw [bvI_len];have:=starI_len xs xs.length;omega)
   rcases Nat.lt_or_ge xs.length ys.length with hlx|hlx
   ·have hlI:(xs.length:Int)≤(ys.length:Int):=by omega
    have hcI:(ys.length:Int)≤(cap:Int):=by omega
    have hne1:¬ ys.length-xs.length=0:=by omega
    have hne2:¬ ys.length=xs.length:=by omega
    have hne3:¬ xs.length=ys.length:=by omega
    go_wp2_with fail
    go_region_law (refine step_append_bind rfl _ _ rfl w1.heap.size _ (bvI g xs xs.length) wr.heap.size 1 (some ⟨g,xs.length,none⟩,ys.length-xs.length,ys.length-xs.length,t) rfl rfl (HV.out.below bB) (by simp) (by simp) (by have:=HBN.out;omega) (by simp;omega) ?_;intro v1 w3 hov hg hor;have HOW:=lh ((HO.out.below (by repeat (first|exact Below.refl _ _|apply Below.drew|apply below_al))).away hg (.inr (fun e=>HNE.out e.symm)));have HBW:=lh (((HBL.out.alloc hsz (.cells #[.slice (some ⟨g,xs.length,none⟩) (ys.length-xs.length) (ys.length-xs.length),.bool t] 202)).drew).grown hg (by simp;omega) (fun k' hk'=>(HV.out.own k' hk').1));obtain ⟨C,cc,rfl,hbt⟩:=bind_done1 HOW.out hle hov (by have h9:=RT.from HOW.out xs.length (ys.length-xs.length) (by rw [tz_len (Nat.le_refl _) hle];exact Nat.le_refl _) (by omega);rw [tz_drop (Nat.le_refl _) hle] at h9;exact h9);have HBT:=lh hbt;have ht1:=hbt.1;have ht2:=hbt.2.1;clear hov hg hor hbt)
    all_goals (go_wp2_with fail)
    all_goals go_ret2
    all_goals exact ⟨C,cc,rfl,HBT.out,P2.b (HI.go HBW.out)⟩
   ·have hlI:(xs.length:Int)≤(ys.length:Int):=by omega
    have hcI:(ys.length:Int)≤(cap:Int):=by omega
    have hz0:ys.length-xs.length=0:=by omega
    go_wp2_with fail
    go_region_law (refine step_append_bind rfl _ _ rfl w1.heap.size _ (bvI g xs xs.length) wr.heap.size 1 ((if ys.length=xs.length then some ⟨g,0,none⟩ else some ⟨g,xs.length,none⟩),ys.length-xs.length,0,t) rfl rfl (HV.out.below bB) (by simp [hz0]) (by simp) (by have:=HBN.out;omega) (by simp;omega) ?_;intro v1 w3 hov hg hor;have HOW:=lh ((HO.out.below (by repeat (first|exact Below.refl _ _|apply Below.drew|apply below_al))).away hg (.inr (fun e=>HNE.out e.symm)));have HBW:=lh (((HBL.out.alloc hsz (.cells #[.slice (if ys.length=xs.length then some ⟨g,0,none⟩ else some ⟨g,xs.length,none⟩) 0 0,.bool t] 202)).drew).grown hg (by simp;omega) (fun k' hk'=>(HV.out.own k' hk').1));obtain ⟨C,cc,rfl,hbt⟩:=bind_done1 HOW.out hle hov (by rw [List.drop_eq_nil_of_le (by omega)];exact RT.nil _ _ _ (by omega));have HBT:=lh hbt;have ht1:=hbt.1;have ht2:=hbt.2.1;clear hov hg hor hbt)
    all_goals (go_wp2_with fail)
    all_goals go_ret2
    all_goals exact ⟨C,cc,rfl,HBT.out,P2.b (HI.go HBW.out)⟩
theorem bind_plain (A B:Option Addr) (c d:Nat) (xs ys:List ByteArray) (t:Bool) (w:World) (h:RT w A c xs) (k:RT w B d ys) (hm:ML w)
 (hsx:∀ x∈xs,x.size≤9223372036854775807) (hsy:∀ x∈ys,x.size≤9223372036854775807) (hw:withinOk insB ys xs t false=true) :
 Calls Tryz.prog 88 #[.agg #[.slice A xs.length c,.bool false],.agg #[.slice B ys.length d,.bool t]] w (RetBT w (bindB xs ys false t) true):=by
 have hwi:=hw
 unfold withinOk insideOk at hwi
 rw [Bool.and_eq_true,Bool.and_eq_true,Bool.and_eq_true,beq_iff_eq,beq_iff_eq] at hwi
 have hle:=lensIn_le hwi.2.2.1
 have hx12:=(check_zero hwi.2.1).2.1
 have hy12:=(check_zero hwi.1).2.1
 have hx0:=(check_zero hwi.2.1).1
 have HI:=P2.enter h k hm false t 45
 have HW:=lh (fun w h k=>within_any B A d c ys xs t false w h k hsy hsx)
 have HCL:=lh (fun W (h:RT W B d ys)=>clone_any B d ys W h (by omega) (by omega))
 rw [hw] at HW
 have HSX:=lh hsx
 have HSY:=lh hsy
 have hx1:=h.1
 have hx2:=h.2.1
 have hy1:=k.1
 have hy2:=k.2.1
 clear h k hm hsx hsy hw hwi
 go_enter Tryz.func88,Tryz.ntmps88
 go_wp2_with (first
  | (go_at_call 122;refine (HW.out _ (P2.y (HI.go bB)) (P2.x (HI.go bB))).mono ?_;rintro e w1 ⟨rfl,hb⟩;replace HI:=HI.go2 bB hb;clear hb;obtain ⟨p1,p2,q1,q2⟩:=P2.cells HI)
  | (go_at_call 85;refine (HCL.out _ (P2.y (HI.go bB))).mono ?_;rintro e w2 ⟨g,cap,rfl,hoc,hb⟩;have HOC:=lh hoc;have HBC:=lh hb;obtain ⟨p1,p2,q1,q2⟩:=P2.cells (HI.go hb);clear hoc hb))
 have hcap:=(HOC.out.block (by omega))
 obtain ⟨g',cap',e',hg1,hg2,hc1,hc2⟩:=hcap
 obtain ⟨e1,-,e3⟩:=Value.slice.inj e'
 have e4:g=g':=by have:=Option.some.inj e1;exact congrArg Addr.block this
 subst e4
 subst e3
 clear e' e1
 go_loopw [7,21] (fun bvv i wr=>∃ k:Nat,k≤xs.length∧i=.int .i64 k∧Hid (OT wr w1.heap.size (.slice (some ⟨g,0,none⟩) ys.length cap) (tz xs ys k))∧Hid (OB wr w1.heap.size bvv (bvI g xs k))∧Hid (bvv.ownBlock≠some g)∧Hid (Below w1.heap.size w1 wr)∧Hid (g<wr.heap.size)) (fun _ i _=>xs.length-(intOf i).toNat)
 case atStart=>exact ⟨0,Nat.zero_le _,rfl,lh (by rw [tz_zero];exact HOC.out),lh (OB.nil _ _),lh (by simp [Value.ownBlock]),HBC,lh hg2⟩
 case round =>
  obtain ⟨k,hk,rfl,HO,HV,HNE,HBL,HGL⟩:=hrel
  have HJ:=HI.go HBL.out
  have hsz:=HBL.out.size
  obtain ⟨p1,p2,q1,q2⟩:=P2.cells HJ
  by_cases hlt:k<xs.length
  ·obtain ⟨x,hx⟩:∃ x,xs[k]? = some x:=⟨_,gE hlt⟩
   obtain ⟨y,hy⟩:∃ y,ys[k]? = some y:=⟨_,gE (by omega)⟩
   obtain ⟨b1,o1,rfl,hb1,hc1'⟩:=(P2.x HJ).2.2 (by omega)
   have hcx:=hc1' k x hx
   have hyz:=HSY.out y (mG hy)
   obtain ⟨hct,hft,-,-,-,-,-⟩:=HO.out.cell ((tz_hi (by omega) (by omega) (Nat.le_refl k)).trans hy)
   have HST:=lh (tz_step hx hy)
   have HBS:=lh (bvI_step (g:=g) hx)
   have HTL:Hid (k<(tz xs ys k).length):=lh (by rw [tz_len (by omega) (by omega)];omega)
   have HBN:Hid ((bvI g xs k).length≤100):=lh (by rw [bvI_len];have:=starI_len xs k;omega)
   have hxz:=HSX.out x (mG hx)
   clear hc1' hx hy hb1
   cases hs:stB x with
   | false =>
    rw [hs] at HBS
    simp only [Bool.false_eq_true,if_false,List.append_nil] at HBS
    go_wp2_with (go_at_call 97;refine (isStar_any x _).mono ?_;rintro e w' ⟨rfl,rfl⟩)
    go_roundw
    case rel=>exact ⟨k+1,by omega,by go_num,lh (by rw [HST.out.2 hs];exact HO.out),lh (by rw [HBS.out];exact HV.out),HNE,HBL,HGL⟩
    case measure=>simp [intOf];omega
   | true =>
    have hpos:=stB_pos hs
    rw [hs] at HBS
    simp only [if_true] at HBS
    have HTS:=lh (fun W=>trimSuf_any x y W hyz)
    have hky:k<ys.length:=by omega
    have hkc:k+1≤cap:=by omega
    have hpI:(1:Int)≤(x.size:Int):=by omega
    have HST1:=lh (HST.out.1 hs)
    clear HST
    generalize trB x y=z at *
    go_wp2_with (go_at_call 97;refine (isStar_any x _).mono ?_;rintro e w' ⟨rfl,rfl⟩)
    go_region_law (first|(go_simp;go_at_call 123;refine (HTS.out _).mono ?_;rintro e w' ⟨rfl,rfl⟩))
    have HO1:=lh (HO.out.set HTL.out z)
    have HV1:=lh (HV.out.other (p:=⟨g,k,none⟩) HNE.out (.string z))
    have hgl:=HGL.out
    go_wp2_with (at_builtin;refine wpList_append_bind rfl _ _ rfl w1.heap.size _ (bvI g xs k) wr.heap.size 1 (some ⟨g,k,none⟩,1,1,false) rfl rfl (HV1.out.below bB) (by simpa using (PX.newAt (w:=wr.setCell ⟨g,k,none⟩ (.string z)) (g:=wr.heap.size) (u:=.slice (some ⟨g,k,none⟩) 1 1) (v:=.bool false) (t:=202) (by simp)).1) (by simpa using (PX.newAt (w:=wr.setCell ⟨g,k,none⟩ (.string z)) (g:=wr.heap.size) (u:=.slice (some ⟨g,k,none⟩) 1 1) (v:=.bool false) (t:=202) (by simp)).2) (by have:=HBN.out;omega) (by simp;omega) ?_;intro v1 w3 hov hg hor;have hwz:=hg.size;have HOW:=lh ((HO1.out.below (by repeat (first|exact Below.refl _ _|apply Below.drew|apply below_al))).away hg (.inr (fun e=>HNE.out e.symm)));have HVW:=lh hov;have HNW:Hid (v1.ownBlock≠some g):=lh (by rcases hor with e|e<;>rw [e];exact HNE.out;intro e2;simp at e2;omega);have HBW:=lh ((((HBL.out.setCell (p:=⟨g,k,none⟩) hg1 _).alloc (by simp;omega) _).drew).grown hg (by simp;omega) (fun k' hk'=>(HV.out.own k' hk').1));have HGW:Hid (g<w3.heap.size):=lh (by simp at hwz;omega);clear hov hg hor hwz)
    go_roundw
    case rel=>exact ⟨k+1,by omega,by go_num,lh (by rw [←HST1.out];exact HOW.out),lh (by rw [HBS.out];exact HVW.out),HNW,HBW,HGW⟩
    case measure=>simp [intOf];omega
  ·obtain rfl:k=xs.length:=by omega
   obtain ⟨C,cc,rfl,hbt⟩:=bind_done0 (t:=t) HO.out hle HV.out;have HBT:=lh hbt;have ht1:=hbt.1;have ht2:=hbt.2.1;clear hbt;go_wp2_with fail;go_ret2;exact ⟨C,cc,rfl,HBT.out,P2.b HJ⟩
open Go.RowKit
open Pm
theorem RT.away {w w':World} {C:Option Addr} {c:Nat} {xs:List ByteArray} {row:Option Nat} (h:RT w C c xs) (hg:w.grownBy w' row) (hne:∀ b o,C=some ⟨b,o,none⟩→row≠some b):RT w' C c xs :=
 ⟨h.1,h.2.1,fun h0=>by
  obtain ⟨b,o,e,hlt,hc⟩:=h.2.2 h0
  exact ⟨b,o,e,Nat.lt_of_lt_of_le hlt hg.size,fun j x hx=>hg.cell (hc j x hx) (fun e2=>hne b o e e2.symm)⟩⟩
theorem below_two {w v w':World} (h1:Below w.heap.size w v) (h2:Below v.heap.size v w'):Below w.heap.size w w':=h1.trans (h2.mono h1.size)
theorem step_append_textsN {w:World} {ops:Array Oper} {o:Oper} {a:Act} {K:Act→World→Prop} {Q:Exit→Act→World→Prop} {E:Prop} (hgd:o.guard=none) (s x:Operand)
 (ho:o.op=.call { callee:=.builtin .append,args:=#[s,x],argTypes:=#[25,25] })
 (base:Nat) (v:Value) (xs ys:List ByteArray) (A:Option Addr) (c n:Nat) (hn:ys.length=n) (hs:a.eval s=v) (hx:a.eval x=.slice A n c) (hown:OT w base v xs) (hr:RT w A c ys)
 (hlen:xs.length+n≤1000000) (hbase:base≤w.heap.size)
 (h:∀ v' w',OT w' base v' (xs++ys)→w.grownBy w' v.ownBlock→(v'.ownBlock=v.ownBlock∨v'.ownBlock=some w.heap.size)→K (a.put o.dst v') w') :
 if Region.wanted o (yielded ops a.tmps)=true then Oper.wp Tryz.prog o a w K Q else E:=by
 subst hn
 exact step_append_texts hgd s x ho base v xs ys A c hs hx hown hr hlen hbase h
theorem bind_any (A B:Option Addr) (c d:Nat) (xs ys:List ByteArray) (r t:Bool) (w:World) (h:RT w A c xs) (k:RT w B d ys) (hm:ML w)
 (hsx:∀ x∈xs,x.size≤9223372036854775807) (hsy:∀ x∈ys,x.size≤9223372036854775807) :
 Calls Tryz.prog 88 #[.agg #[.slice A xs.length c,.bool r],.agg #[.slice B ys.length d,.bool t]] w (RetBT w (if withinOk insB ys xs t r=true then bindB xs ys r t else []) (withinOk insB ys xs t r)):=by
 cases hw:withinOk insB ys xs t r with
 | false=>exact bind_no A B c d xs ys r t w h k hm hsx hsy hw
 | true =>
  cases r with
  | true=>exact bind_rest A B c d xs ys t w h k hm hsx hsy hw
  | false=>exact bind_plain A B c d xs ys t w h k hm hsx hsy hw
end Go.Proofs.YtelkmeiepliecaaGreatDoor
