/-
  Part 22 of the proof.
-/
import Derived.Test.YtelkmeiepliecaaGreatDoorU21
import Derived.Lib.SliceRun
set_option linter.unusedSimpArgs false
set_option linter.unusedVariables false
set_option maxHeartbeats 16000000
namespace Go.Proofs.YtelkmeiepliecaaGreatDoor
open Go.RowKit Go.Shelf
open Go.Sort (SWO grow alloc_eq_grow grow_grow PermIn SortedIn HoldsK flatK)
section
variable {P:Program}
theorem run_clear_rows (w:World) (t e ty:TypeId) (z:Value) {size:Nat} (ht:P.underlying t=some (.slice e)) (hv:∀ w,(zeroValue e).run P w=.ok z w) (hz:z.cells.size=size) (h1:∀ u∈z.cells.toList,u.oneCell'=true) (b o n c:Nat) (hn:0<n)
 (hc:∀ j,j<n * size→(w.cell? ⟨b,o+j,none⟩).isSome=true) (hf:∀ j,j<n * size→w.frozen? ⟨b,o+j,none⟩=false) :
 (Builtin.clear_ #[t] ty #[.slice (some ⟨b,o,none⟩) n c]).run P w=.ok (.tuple #[]) (w.setCells b o (Builtin.zeroCells z.cells n).toList):=by
 have hl:(Builtin.zeroCells z.cells n).toList.length=n * size:=by rw [Array.length_toList,size_zeroCells,hz]
 have hst:=run_storeCells_cells (P:=P) b o (Builtin.zeroCells z.cells n).toList 0 w (by rw [hl];simpa using hc) (by rw [hl];simpa using hf) (by
  intro v hv'
  unfold Builtin.zeroCells at hv'
  rw [Array.toList_map] at hv'
  obtain ⟨j,hj,rfl⟩:=List.mem_map.1 hv'
  have hj:=Array.mem_toList_iff.1 hj
  rw [Array.mem_range] at hj
  have h0:0<z.cells.size:=by
   rcases Nat.eq_zero_or_pos z.cells.size with e|e
   ·rw [e] at hj;simp at hj
   ·exact e
  have hp:j % z.cells.size<z.cells.size:=Nat.mod_lt _ h0
  rw [getElem!_pos z.cells _ hp]
  exact h1 _ (by simp))
 simp only [Nat.add_zero] at hst
 obtain ⟨m,rfl⟩:∃ m,n=m+1:=⟨n-1,by omega⟩
 simp [Builtin.clear_,run_underlying ht,hv,hst]
end
theorem setCells_other (b:Nat):∀ (vs:List Value) (o:Nat) (w:World) (p:Addr),(p.block≠b∨p.off<o)→(w.setCells b o vs).cell? p=w.cell? p
 | [],_,_,_,_=>rfl
 | v::vs,o,w,p,h=>by
  rw [World.setCells,setCells_other b vs (o+1) _ p (by rcases h with h|h;exact .inl h;exact .inr (by omega)),World.cell?_setCell_other]
  rintro rfl
  rcases h with h|h
  ·exact h rfl
  ·exact Nat.lt_irrefl _ h
theorem setCells_frozen (b:Nat):∀ (vs:List Value) (o:Nat) (w:World) (p:Addr),(w.setCells b o vs).frozen? p=w.frozen? p
 | [],_,_,_=>rfl
 | v::vs,o,w,p=>by rw [World.setCells,setCells_frozen b vs (o+1) _ p,World.frozen?_setCell]
theorem setCells_gb (b:Nat):∀ (vs:List Value) (o:Nat) (w:World),w.grownBy (w.setCells b o vs) (some b)
 | [],_,w=>World.grownBy.refl _ _
 | v::vs,o,w=>by
  rw [World.setCells]
  have h1:w.grownBy (w.setCell ⟨b,o,none⟩ v) (some b):=gb_set (World.grownBy.refl _ _) (.inl rfl) v
  have h2:=setCells_gb b vs (o+1) (w.setCell ⟨b,o,none⟩ v)
  exact ⟨h2.os.trans h1.os,h2.tape.trans h1.tape,h2.output.trans h1.output,Nat.le_trans h1.size h2.size,fun k hk hne=>(h2.block k (Nat.lt_of_lt_of_le hk h1.size) hne).trans (h1.block k hk hne)⟩
theorem gb_trans {a w w':World} {k:Option Nat} (h:a.grownBy w k) (h2:w.grownBy w' k):a.grownBy w' k :=
 ⟨h2.os.trans h.os,h2.tape.trans h.tape,h2.output.trans h.output,Nat.le_trans h.size h2.size,fun j hj hne=>(h2.block j (Nat.lt_of_lt_of_le hj h.size) hne).trans (h.block j hj hne)⟩
theorem flat_set3 {hs:List Ho} {k:Nat} (hk:k<hs.length) (x:Ho) :
 ((((hs.map Ho.enc).flatten.set (k * 3) (.slice x.A x.p.1.length x.n)).set (k * 3+1) (.bool x.p.2)).set (k * 3+2) (.string (txt x.p)))=((hs.set k x).map Ho.enc).flatten:=by
 induction hs generalizing k with
 | nil=>simp at hk
 | cons h hs ih =>
  cases k with
  | zero=>simp [Ho.enc]
  | succ k =>
   have:=ih (k:=k) (by simpa using hk)
   simp only [List.map_cons,List.flatten_cons,List.set_cons_succ]
   rw [←this]
   have e:∀ (l:List Value) (i:Nat) (v:Value),(h.enc++l).set (i+3) v=h.enc++l.set i v:=fun l i v=>by simp [Ho.enc]
   rw [show (k+1) * 3=k * 3+3 by omega,show k * 3+3+1=(k * 3+1)+3 by omega,show k * 3+3+2=(k * 3+2)+3 by omega,e,e,e]
theorem HB.set {w:World} {g cap:Nat} {hs:List Ho} (h:HB w g cap hs) {k:Nat} (hk:k<hs.length) (x:Ho) :
 HB (((w.setCell ⟨g,k * 3,none⟩ (.slice x.A x.p.1.length x.n)).setCell ⟨g,k * 3+1,none⟩ (.bool x.p.2)).setCell ⟨g,k * 3+2,none⟩ (.string (txt x.p))) g cap (hs.set k x):=by
 have hl:(hs.map Ho.enc).flatten.length=hs.length * 3:=by rw [flat_len (enc_len hs),List.length_map]
 refine ⟨?_,by rw [List.length_set];exact h.2.1,h.2.2⟩
 rw [←flat_set3 hk x]
 exact ((h.1.set (by omega) _).set (by rw [List.length_set];omega) _).set (by rw [List.length_set,List.length_set];omega) _
theorem HB.take {w:World} {g cap:Nat} {hs:List Ho} (h:HB w g cap hs) (k:Nat) (hk:k≤hs.length):HB w g cap (hs.take k):=by
 refine ⟨⟨fun j u hu=>h.1.1 j u ?_,h.1.2⟩,by rw [List.length_take];have:=h.2.1;omega,h.2.2⟩
 have:(hs.map Ho.enc).flatten=((hs.take k).map Ho.enc).flatten++((hs.drop k).map Ho.enc).flatten:=by
  rw [←List.flatten_append,← List.map_append,List.take_append_drop]
 rw [this,List.getElem?_append_left (sI.1 hu).1]
 exact hu
theorem HB.clear {w:World} {g cap:Nat} {hs:List Ho} (h:HB w g cap hs) (vs:List Value):HB (w.setCells g (hs.length * 3) vs) g cap hs:=by
 have hl:(hs.map Ho.enc).flatten.length=hs.length * 3:=by rw [flat_len (enc_len hs),List.length_map]
 refine ⟨⟨fun j u hu=>?_,fun i=>?_,Nat.lt_of_lt_of_le h.1.2.2 (setCells_gb _ _ _ _).size⟩,h.2⟩
 ·have hj:=(sI.1 hu).1
  rw [setCells_other _ _ _ _ _ (.inr (show j<hs.length * 3 by omega))]
  exact h.1.1 j u hu
 ·rw [setCells_frozen];exact h.1.2.1 i
theorem HB.froz {w:World} {g cap:Nat} {hs:List Ho} (h:HB w g cap hs) (i:Nat):w.frozen? ⟨g,i,none⟩=false:=h.1.2.1 i
set_option maxRecDepth 100000 in
theorem compact_any (g cap:Nat) (hs:List Ho) (w:World) (h:HB w g cap hs) (hm:HM w g hs) (hl:hs.length≤100000) :
 Calls Tryz.prog 108 #[.slice (some ⟨g,0,none⟩) hs.length cap,.func (.func 109) #[] #[]] w fun e w' =>
  ∃ hs',e=.returned (.slice (some ⟨g,0,none⟩) hs'.length cap)∧hs'=ddT Ho.key hs∧HB w' g cap hs'∧HM w' g hs'∧w.grownBy w' (some g):=by
 have HH:=lh h
 have HMM:=lh hm
 have q1:=h.2.1
 have q2:=h.2.2
 have qg:=h.1.2.2
 clear h hm
 by_cases h2:hs.length<2
 ·have e1:decide ((hs.length:Int)<2)=true:=by simp;omega
  have HE:Hid (ddT Ho.key hs=hs):=lh (by
   unfold ddT
   rw [ddI_all _ (Nat.le_refl _) (fun i hi=>by
    obtain rfl:i=0:=by omega
    rfl),List.take_length])
  go_enter Tryz.func108,Tryz.ntmps108
  go_wp2_with fail
  go_ret
  exact ⟨hs,rfl,HE.out.symm,HH.out,HMM.out,World.grownBy.refl _ _⟩
 ·have e1:decide ((hs.length:Int)<2)=false:=by simp;omega
  go_enter Tryz.func108,Tryz.ntmps108
  go_wp2_with fail
  have HS:At (fun w'=>HB w' g cap hs∧Below w.heap.size w w') w:=⟨fun X Y h hb=>⟨h.1.below hb,go3 h.2 hb⟩,HH.out,Below.refl _ _⟩
  go_loopw [5] (fun s wr=>∃ k:Nat,k+1≤hs.length∧s=.int .i64 ((k+1:Nat):Int)∧Hid (∀ i,i<k+1→freshK Ho.key hs i=true)∧Hid (HB wr g cap hs∧Below w.heap.size w wr)) (fun s _=>hs.length-(intOf s).toNat)
  case atStart=>exact ⟨0,by omega,rfl,lh (fun i hi=>by obtain rfl:i=0:=by omega
                                                       rfl),lh HS.out⟩
  case round =>
   clear HS
   obtain ⟨k,hk2,rfl,HF,HS0⟩:=hrel
   have HS:At (fun w'=>HB w' g cap hs∧Below w.heap.size w w') wr:=⟨fun X Y h hb=>⟨h.1.below hb,go3 h.2 hb⟩,HS0.out⟩
   clear HS0
   by_cases hlt:k+1<hs.length
   ·obtain ⟨x,hx⟩:∃ x,hs[k+1]? = some x:=⟨_,gE hlt⟩
    obtain ⟨y,hy⟩:∃ y,hs[k]? = some y:=⟨_,gE (by omega)⟩
    have HX:=lh hx
    have HY:=lh hy
    have HR:=lh (fun W=>red2_any x y W)
    have HFX:Hid (freshK Ho.key hs (k+1)=!decide (txt x.p=txt y.p)):=lh (by
     unfold freshK
     rw [Nat.add_sub_cancel,hx,hy]
     simp [Ho.key])
    generalize decide (txt x.p=txt y.p)=q at *
    clear hx hy
    obtain ⟨c0,c1,c2⟩:=HS.out.1.cell HX.out
    obtain ⟨d0,d1,d2⟩:=HS.out.1.cell HY.out
    have i1:(0:Int)≤(k:Int)+1:=by omega
    have i2:(k:Int)+1<(hs.length:Int):=by omega
    have i3:IntKind.i64.wrap (k:Int)=(k:Int):=IntWalk.i64_in _ (by omega)
    have i5:IntKind.i64.wrap ((k:Int)+1-1)=(k:Int):=by rw [Int.add_sub_cancel];exact i3
    have i6:(0:Int)≤(k:Int):=by omega
    have i4:(k:Int)<(hs.length:Int):=by omega
    go_upto_region 6 with (fail)
    go_region_held3 (fun w'=>w'.cell? ⟨g,(k+1) * 3,none⟩=some (.slice x.A x.p.1.length x.n)∧w'.cell? ⟨g,(k+1) * 3+1,none⟩=some (.bool x.p.2)∧w'.cell? ⟨g,(k+1) * 3+2,none⟩=some (.string (txt x.p))∧w'.cell? ⟨g,k * 3,none⟩=some (.slice y.A y.p.1.length y.n)∧w'.cell? ⟨g,k * 3+1,none⟩=some (.bool y.p.2)∧w'.cell? ⟨g,k * 3+2,none⟩=some (.string (txt y.p)))
     (first|exact ⟨((HS.go bB).out.1.cell HX.out).1,((HS.go bB).out.1.cell HX.out).2.1,((HS.go bB).out.1.cell HX.out).2.2,((HS.go bB).out.1.cell HY.out).1,((HS.go bB).out.1.cell HY.out).2.1,((HS.go bB).out.1.cell HY.out).2.2⟩)
     (first
      | (go_at_call 109;refine (HR.out _).mono ?_;rintro e w1 ⟨rfl,hb1⟩;replace HS:=HS.go2 bB hb1;clear hb1))
    cases q with
    | false =>
     go_wp2_with fail
     go_roundw
     case rel=>exact ⟨k+1,by omega,by go_num,lh (fun i hi=>by
      rcases Nat.lt_or_ge i (k+1) with h1|h1
      ·exact HF.out i h1
      ·obtain rfl:i=k+1:=by omega
       exact HFX.out),lh (HS.go bB).out⟩
     case measure=>simp [intOf];omega
    | true =>
     have g1:k+1<cap:=by omega
     go_wp2_with fail
     have HST:Hid (hs.take (k+1)=ddI Ho.key hs (k+1+0+1)):=lh (by
      rw [Nat.add_zero,ddI_step hs (k+1) HX.out,HFX.out,ddI_all (k+1) (by omega) HF.out]
      simp)
     have HW:=lh (⟨(HS.go bB).out.1,gb_below (World.grownBy.refl w (some g)) (HS.go bB).out.2⟩:_∧_)
     clear HS HFX HF HR HX HY i1 i2 i3 i4 i5 i6
     go_loopw [5,7] (fun s5 s7 wr=>∃ (kk k2:Nat) (cur:List Ho),s5=.int .i64 (kk:Int)∧s7=.int .i64 ((k2:Int)+1)∧k+1+(k2+1)≤hs.length∧kk≤k+1+k2∧k+1≤kk∧cur.length=hs.length∧Hid (HB wr g cap cur∧w.grownBy wr (some g))∧Hid (cur.take kk=ddI Ho.key hs (k+1+k2+1))∧Hid (∀ j,k+1+k2≤j→cur[j]? = hs[j]?)) (fun _ s _=>hs.length-(intOf s).toNat)
     case atStart=>exact ⟨k+1,0,hs,by go_num,by go_num,by omega,by omega,Nat.le_refl _,rfl,HW,HST,lh (fun _ _=>rfl)⟩
     case round =>
      clear HW HST
      obtain ⟨kk,k2,cur,rfl,rfl,hq,hkq,hkk,hcl,HS0,HTK,HRE⟩:=hrel
      have HS:At (fun w'=>HB w' g cap cur∧w.grownBy w' (some g)) wr:=⟨fun X Y h hb=>⟨h.1.below hb,gb_below h.2 hb⟩,HS0.out⟩
      clear HS0
      have j5:IntKind.i64.wrap ((k2:Int)+1-1)=(k2:Int):=by rw [Int.add_sub_cancel];exact IntWalk.i64_in _ (by omega)
      have j3:IntKind.i64.wrap (k2:Int)=(k2:Int):=IntWalk.i64_in _ (by omega)
      have hcap:kk<cap:=by omega
      by_cases hlt:k2+1<hs.length-(k+1)
      ·obtain ⟨x2,hx⟩:∃ x,hs[k+1+(k2+1)]? = some x:=⟨_,gE (by omega)⟩
       obtain ⟨y2,hy⟩:∃ y,hs[k+1+k2]? = some y:=⟨_,gE (by omega)⟩
       obtain ⟨z2,hz⟩:∃ z,cur[kk]? = some z:=⟨_,gE (by omega)⟩
       have HX:=lh ((HRE.out _ (by omega)).trans hx)
       have HY:=lh ((HRE.out _ (Nat.le_refl _)).trans hy)
       have HZ:=lh hz
       have HR:=lh (fun W=>red2_any x2 y2 W)
       have HSP:Hid (ddI Ho.key hs (k+1+(k2+1)+1)=ddI Ho.key hs (k+1+k2+1)++if (!decide (txt x2.p=txt y2.p))=true then [x2] else []):=lh (by
        rw [ddI_step hs _ hx,show k+1+(k2+1)=k+1+k2+1 by omega]
        congr 2
        unfold freshK
        rw [Nat.add_sub_cancel,show k+1+k2+1=k+1+(k2+1) by omega,hx,hy]
        simp [Ho.key])
       have HCX:Hid (∀ W,HB W g cap cur→(W.cell? ⟨g,(k+1) * 3+(k2+1) * 3,none⟩=some (.slice x2.A x2.p.1.length x2.n)∧W.cell? ⟨g,(k+1) * 3+(k2+1) * 3+1,none⟩=some (.bool x2.p.2)∧W.cell? ⟨g,(k+1) * 3+(k2+1) * 3+2,none⟩=some (.string (txt x2.p))) ∧
        W.cell? ⟨g,(k+1) * 3+k2 * 3,none⟩=some (.slice y2.A y2.p.1.length y2.n)∧W.cell? ⟨g,(k+1) * 3+k2 * 3+1,none⟩=some (.bool y2.p.2)∧W.cell? ⟨g,(k+1) * 3+k2 * 3+2,none⟩=some (.string (txt y2.p))):=lh (fun W h=>by
        rw [←Nat.add_mul,← Nat.add_mul]
        exact ⟨h.cell HX.out,h.cell HY.out⟩)
       generalize decide (txt x2.p=txt y2.p)=q at *
       have l1:(0:Int)≤(k2:Int)+1:=by omega
       have l2:(k2:Int)+1<((hs.length-(k+1):Nat):Int):=by omega
       have l3:(k2:Int)<((hs.length-(k+1):Nat):Int):=by omega
       have l4:(0:Int)≤(k2:Int):=by omega
       clear hx hy hz
       obtain ⟨⟨c0,c1,c2⟩,d0,d1,d2⟩:=HCX.out _ HS.out.1
       go_upto_region 11 with (fail)
       go_region_held3 (fun w'=>(w'.cell? ⟨g,(k+1) * 3+(k2+1) * 3,none⟩=some (.slice x2.A x2.p.1.length x2.n)∧w'.cell? ⟨g,(k+1) * 3+(k2+1) * 3+1,none⟩=some (.bool x2.p.2)∧w'.cell? ⟨g,(k+1) * 3+(k2+1) * 3+2,none⟩=some (.string (txt x2.p))) ∧
        w'.cell? ⟨g,(k+1) * 3+k2 * 3,none⟩=some (.slice y2.A y2.p.1.length y2.n)∧w'.cell? ⟨g,(k+1) * 3+k2 * 3+1,none⟩=some (.bool y2.p.2)∧w'.cell? ⟨g,(k+1) * 3+k2 * 3+2,none⟩=some (.string (txt y2.p)))
        (first|exact HCX.out _ (HS.go bB).out.1)
        (first
         | (go_at_call 109;refine (HR.out _).mono ?_;rintro e w1 ⟨rfl,hb1⟩;replace HS:=HS.go2 bB hb1;clear hb1))
       clear c0 c1 c2 d0 d1 d2
       cases q with
       | true =>
        have HSQ:Hid (cur.take kk=ddI Ho.key hs (k+1+(k2+1)+1)):=lh (by rw [HSP.out,HTK.out];simp)
        go_wp2_with fail
        go_roundw
        case rel=>exact ⟨kk,k2+1,cur,rfl,by go_num,by omega,by omega,by omega,hcl,lh (HS.go bB).out,HSQ,lh (fun j hj=>HRE.out j (by omega))⟩
        case measure=>simp [intOf];omega
       | false =>
        have HSQ:Hid ((cur.set kk x2).take (kk+1)=ddI Ho.key hs (k+1+(k2+1)+1)):=lh (by
         rw [HSP.out,← HTK.out,List.take_add_one,List.take_set_of_le (Nat.le_refl _),List.getElem?_set_self (by omega)]
         rfl)
        have HRE2:Hid (∀ j,k+1+(k2+1)≤j→(cur.set kk x2)[j]? = hs[j]?):=lh (fun j hj=>by
         rw [List.getElem?_set_ne (by omega)]
         exact HRE.out j (by omega))
        have n1:(0:Int)≤(kk:Int):=by omega
        have n2:(kk:Int)<(hs.length:Int):=by omega
        obtain ⟨⟨c0,c1,c2⟩,d0,d1,d2⟩:=HCX.out _ HS.out.1
        obtain ⟨e0,e1,e2⟩:=HS.out.1.cell HZ.out
        have f0:=HS.out.1.froz (kk * 3)
        have f1:=HS.out.1.froz (kk * 3+1)
        have f2:=HS.out.1.froz (kk * 3+2)
        go_wp2_with fail
        go_roundw
        case rel=>exact ⟨kk+1,k2+1,cur.set kk x2,by go_num,by go_num,by omega,by omega,by omega,by rw [List.length_set];exact hcl,lh ⟨HS.out.1.set (by omega) x2,gb_set (gb_set (gb_set HS.out.2 (.inl rfl) _) (.inl rfl) _) (.inl rfl) _⟩,HSQ,HRE2⟩
        case measure=>simp [intOf];omega
      ·have hqn:k+1+k2+1=hs.length:=by omega
       have HTN:Hid (cur.take kk=ddT Ho.key hs):=lh (by rw [HTK.out,hqn];rfl)
       have HLK:Hid ((ddT Ho.key hs).length=kk):=lh (by rw [←HTN.out,List.length_take];omega)
       have n1:(0:Int)≤(kk:Int):=by omega
       have n2:(kk:Int)≤(hs.length:Int):=by omega
       have HCE:Hid (∀ j,j<(hs.length-kk) * 3→(wr.cell? ⟨g,kk * 3+j,none⟩).isSome=true):=lh (fun j hj=>by
        have hll:(cur.map Ho.enc).flatten.length=cur.length * 3:=by rw [flat_len (enc_len cur),List.length_map]
        obtain ⟨u,hu⟩:∃ u,(cur.map Ho.enc).flatten[kk * 3+j]? = some u:=⟨_,gE (by omega)⟩
        rw [HS.out.1.1.1 _ u hu]
        rfl)
       have HCR:Hid (∀ ty,(Builtin.clear_ #[185] ty #[.slice (some ⟨g,kk * 3,none⟩) (hs.length-kk) (cap-kk)]).run Tryz.prog wr=.ok (.tuple #[]) (wr.setCells g (kk * 3) (Builtin.zeroCells (Value.agg #[.slice none 0 0,.bool false,.string ByteArray.empty]).cells (hs.length-kk)).toList)):=lh (fun ty =>
        run_clear_rows wr _ _ ty _ (size:=3) Tryz.underlying185 (fun w=>Tryz.zeroValue188 w) rfl (by
         intro u hu
         simp only [Value.cells,List.mem_cons,List.not_mem_nil,or_false] at hu
         rcases hu with rfl|rfl|rfl<;>rfl) g (kk * 3) (hs.length-kk) (cap-kk) (by omega) HCE.out (fun j _=>HS.out.1.froz _))
       have hrun:=HCR.out 0
       go_wp2_with fail
       go_ret
       have hset:=setCells_gb g (Builtin.zeroCells (Value.agg #[.slice none 0 0,.bool false,.string ByteArray.empty]).cells (hs.length-kk)).toList (kk * 3) wr
       refine ⟨ddT Ho.key hs,by rw [HLK.out];rfl,rfl,?_,(HMM.out.grown (gb_trans HS.out.2 hset)).perm (fun x hx=>ddT_mem hx),gb_trans HS.out.2 hset⟩
       have h1:=(HS.out.1.take kk (by omega)).clear (Builtin.zeroCells (Value.agg #[.slice none 0 0,.bool false,.string ByteArray.empty]).cells (hs.length-kk)).toList
       rw [HTN.out,HLK.out] at h1
       exact h1
   ·have hkn:k+1=hs.length:=by omega
    have HTN:Hid (ddT Ho.key hs=hs):=lh (by
     unfold ddT
     rw [ddI_all _ (Nat.le_refl _) (fun i hi=>HF.out i (by omega)),List.take_length])
    have hni:¬ (k:Int)+1<(hs.length:Int):=by omega
    go_wp2_with fail
    go_ret
    exact ⟨hs,rfl,HTN.out.symm,HS.out.1,HMM.out.below HS.out.2,gb_below (World.grownBy.refl w (some g)) HS.out.2⟩
open Go.RowKit Go.Shelf Go.WideShapes
def HoO (w:World) (base:Nat) (v:Value) (hs:List Ho):Prop:=OR w base 188 3 v (hs.map Ho.enc)∧∀ h∈hs,RT w h.A h.n h.p.1∧∀ a,h.A=some a→v.ownBlock≠some a.block∧a.block<w.heap.size
theorem HoO.nil (w:World) (base:Nat):HoO w base (.slice none 0 0) []:=⟨OR.nil _ _ _ _,fun h hh=>by cases hh⟩
theorem HoO.own {w:World} {base:Nat} {v:Value} {hs:List Ho} (h:HoO w base v hs):∀ k,v.ownBlock=some k→base≤k∧k<w.heap.size:=h.1.own
theorem HoO.below {w w':World} {base:Nat} {v:Value} {hs:List Ho} (h:HoO w base v hs) (hb:Below w.heap.size w w'):HoO w' base v hs :=
 ⟨h.1.below hb,fun x hx=>⟨(h.2 x hx).1.below hb,fun a e=>⟨((h.2 x hx).2 a e).1,Nat.lt_of_lt_of_le ((h.2 x hx).2 a e).2 hb.size⟩⟩⟩
theorem HoO.out {w:World} {base:Nat} {v:Value} {hs:List Ho} (h:HoO w base v hs):(v=.slice none 0 0∧hs=[])∨∃ g cap,v=.slice (some ⟨g,0,none⟩) hs.length cap∧base≤g∧HB w g cap hs∧HM w g hs:=by
 rcases h.1.bx with ⟨e,hn⟩|⟨g,c,e,hg,hb,h1,h2⟩
 ·exact .inl ⟨e,by simpa using hn⟩
 ·rw [List.length_map] at e h1
  refine .inr ⟨g,c,e,hg,⟨hb,h1,h2⟩,fun x hx=>⟨(h.2 x hx).1,fun a ea=>fun e2=>((h.2 x hx).2 a ea).1 ?_⟩⟩
  rw [e,e2]
  rfl
theorem holeInfo:(Tryz.prog.info? 188).map (fun i=>(i.zero,i.size,i.bytes))=some (some (.agg #[.slice none 0 0,.bool false,.string ByteArray.empty]),3,48):=by kernel_rfl
theorem run_append_hole (w:World) (base:Nat) (v:Value) (hs:List Ho) (y:Ho) (b c:Nat) (ty:TypeId) (h:HoO w base v hs) (hy:RT w y.A y.n y.p.1∧∀ a,y.A=some a→v.ownBlock≠some a.block∧a.block<w.heap.size)
 (hcells:∀ (k:Nat) (u:Value),y.enc[k]? = some u→w.cell? ⟨b,k,none⟩=some u) (hlen:hs.length+1≤1000000) (hbase:base≤w.heap.size) :
 ∃ v' w',(Builtin.append_ #[185,185] ty #[v,.slice (some ⟨b,0,none⟩) 1 c]).run Tryz.prog w=.ok v' w'∧HoO w' base v' (hs++[y])∧w.grownBy w' v.ownBlock∧(v'.ownBlock=v.ownBlock∨v'.ownBlock=some w.heap.size):=by
 obtain ⟨i,hi,hz,hs1,hb1⟩:=info_parts holeInfo
 obtain ⟨v',w',hrun,h3,h4,_,h5⟩:=run_append_own_at (P:=Tryz.prog) w base 185 ty 188 i (.agg #[.slice none 0 0,.bool false,.string ByteArray.empty]) 3 48 Tryz.underlying185 hi hz hs1 hb1 rfl (by omega) v (hs.map Ho.enc).length (hs.map Ho.enc).flatten h.1.1 ⟨b,0,none⟩ 1 c y.enc
  rfl (fun k u hk=>by rw [add_plain];simpa using hcells k u hk) (by
   intro u hu
   unfold Ho.enc at hu
   simp only [List.mem_cons,List.not_mem_nil,or_false] at hu
   rcases hu with rfl|rfl|rfl<;>rfl) (by simp only [maxLen,List.length_map];omega) (by rw [List.length_map];omega) hbase
 have hrt:∀ x∈hs++[y],RT w x.A x.n x.p.1∧∀ a,x.A=some a→v.ownBlock≠some a.block∧a.block<w.heap.size:=fun x hx=>by
  rcases List.mem_append.1 hx with hx|hx
  ·exact h.2 x hx
  ·rw [List.mem_singleton.1 hx];exact hy
 refine ⟨v',w',hrun,⟨⟨?_,enc_len _⟩,fun x hx=>?_⟩,h4,h5⟩
 ·rw [List.map_append,List.length_append,List.flatten_append]
  simpa using h3
 ·obtain ⟨k1,k2⟩:=hrt x hx
  refine ⟨k1.away h4 (fun bb o e=>(k2 _ e).1),fun a e=>⟨?_,Nat.lt_of_lt_of_le (k2 a e).2 h4.size⟩⟩
  rcases h5 with h5|h5
  ·rw [h5];exact (k2 a e).1
  ·rw [h5]
   intro e2
   have:=(k2 a e).2
   have e3:=Option.some.inj e2
   omega
theorem step_append_hole {w:World} {ops:Array Oper} {o:Oper} {a:Act} {K:Act→World→Prop} {Q:Exit→Act→World→Prop} {G:Prop} (hgd:o.guard=none) (s x:Operand)
 (ho:o.op=.call { callee:=.builtin .append,args:=#[s,x],argTypes:=#[185,185] })
 (base:Nat) (v:Value) (hs:List Ho) (y:Ho) (b c:Nat) (hs':a.eval s=v) (hx:a.eval x=.slice (some ⟨b,0,none⟩) 1 c) (h:HoO w base v hs) (hy:RT w y.A y.n y.p.1∧∀ a,y.A=some a→v.ownBlock≠some a.block∧a.block<w.heap.size)
 (hcells:∀ (k:Nat) (u:Value),y.enc[k]? = some u→w.cell? ⟨b,k,none⟩=some u) (hlen:hs.length+1≤1000000) (hbase:base≤w.heap.size)
 (hK:∀ v' w',HoO w' base v' (hs++[y])→w.grownBy w' v.ownBlock→(v'.ownBlock=v.ownBlock∨v'.ownBlock=some w.heap.size)→K (a.put o.dst v') w') :
 if Region.wanted o (yielded ops a.tmps)=true then Oper.wp Tryz.prog o a w K Q else G:=by
 have hw:Region.wanted o (yielded ops a.tmps)=true:=by simp [Region.wanted,hgd]
 rw [if_pos hw]
 obtain ⟨v',w',hrun,h2,h3,h4⟩:=run_append_hole w base v hs y b c o.type h hy hcells hlen hbase
 unfold Oper.wp execOp
 simp only [ho,resolve,invoke,builtin,Sem.run_bind,Sem.run_pure,Result.andThen_ok,List.map_toArray,List.map_cons,List.map_nil,hs',hx,hrun]
 exact hK v' w' h2 h3 h4
theorem red3_any (gh:Nat) (h:Ho) (w:World) (hg:BX w gh h.enc) (hr:RT w h.A h.n h.p.1) (hz:∀ x∈h.p.1,x.size≤5000) (W:World) (o:Ho) (hW:Below w.heap.size w W) (ho:RT W o.A o.n o.p.1) (hoz:∀ x∈o.p.1,x.size≤5000) :
 Calls Tryz.prog 110 (#[.agg o.enc.toArray]++#[.pointer (some ⟨gh,0,none⟩)]) W fun e w'=>e=.returned (.bool (decide (txt o.p≠txt h.p)&&insP h.p o.p))∧Below w.heap.size w w':=by
 have HIN:=lh (fun W k l=>inside_any h.A o.A h.n o.n h.p.1 o.p.1 h.p.2 o.p.2 W k l (five9 hz) (five9 hoz))
 have HQ:At (fun w'=>BX w' W.heap.size o.enc∧BX w' gh h.enc∧RT w' o.A o.n o.p.1∧RT w' h.A h.n h.p.1∧Below w.heap.size w w') (W.alloc (.cells o.enc.toArray 188)) :=
  ⟨fun X Y h hb=>⟨h.1.below hb,h.2.1.below hb,h.2.2.1.below hb,h.2.2.2.1.below hb,go3 h.2.2.2.2 hb⟩,BX.new W _ _ rfl,(hg.below hW).below (ba _ _),ho.below (ba _ _),(hr.below hW).below (ba _ _),go3 hW (ba _ _)⟩
 have hgl:gh<W.heap.size:=Nat.lt_of_lt_of_le hg.2.2 hW.size
 have hi:Hid (insideOk insB h.p.1 o.p.1 h.p.2 o.p.2=insP h.p o.p):=lh rfl
 rw [hi.out] at HIN
 have HE:Hid (((txt o.p).toList==(txt h.p).toList)=decide (txt o.p=txt h.p)):=lh (by
  by_cases e:txt o.p=txt h.p
  ·rw [e];simp
  ·rw [decide_eq_false e,beq_eq_false_iff_ne]
   intro e2
   exact e (by rw [←mkB_back (txt o.p),← mkB_back (txt h.p),← Lib.toList_data,← Lib.toList_data,e2]))
 clear hg hr ho hi hz hoz
 obtain ⟨A,n,p⟩:=h
 obtain ⟨B,m,q⟩:=o
 unfold Ho.enc at *
 simp only at *
 generalize insP p q=r at *
 generalize txt p=a at *
 generalize txt q=b at *
 obtain ⟨c0,c1,c2⟩:=HQ.out.1.c3
 obtain ⟨d0,d1,d2⟩:=HQ.out.2.1.c3
 show Calls Tryz.prog 110 #[.agg #[.slice B q.1.length m,.bool q.2,.string b],.pointer (some ⟨gh,0,none⟩)] W _
 by_cases e:b=a
 ·have HR:Hid ((decide (b≠a)&&r)=false):=lh (by simp [e])
  subst e
  go_enter Tryz.func110,Tryz.ntmps110
  go_wp2_with fail
  go_ret
  exact ⟨rfl,HQ.out.2.2.2.2⟩
 ·have HR:Hid ((decide (b≠a)&&r)=r):=lh (by simp [e])
  have h0:(b.toList==a.toList)=false:=by rw [HE.out];exact decide_eq_false e
  have h1:(!(b.toList==a.toList))=true:=by rw [h0];rfl
  clear e
  go_enter Tryz.func110,Tryz.ntmps110
  go_wp2_with (go_at_call 111;refine (HIN.out _ HQ.out.2.2.2.1 HQ.out.2.2.1).mono ?_;rintro e w1 ⟨rfl,hb1⟩;replace HQ:=HQ.go2 bB hb1;clear hb1)
  go_ret
  exact ⟨by rw [HR.out];rfl,HQ.out.2.2.2.2⟩
open Go.RowKit
theorem partAt_any (A:Option Addr) (c:Nat) (xs:List ByteArray) (r:Bool) (i:Nat) (w:World) (h:RT w A c xs) :
 Calls Tryz.prog 162 #[.agg #[.slice A xs.length c,.bool r],.int .i64 i] w fun e w'=>e=.returned (.string (partA (xs,r) i))∧Below w.heap.size w w':=by
 have h1:=h.1
 have h2:=h.2.1
 have HX:=lh (h.below (ba w (.cells #[.slice A xs.length c,.bool r] 45)))
 clear h
 by_cases hi:i<xs.length
 ·obtain ⟨x,hx⟩:∃ x,xs[i]? = some x:=⟨_,gE hi⟩
  obtain ⟨b,o,rfl,hb,hc⟩:=HX.out.2.2 (by omega)
  have x0:=hc i x hx
  have HP:Hid (partA (xs,r) i=x):=lh (by unfold partA;rw [hx];rfl)
  clear hx hc
  go_enter Tryz.func162,Tryz.ntmps162
  go_wp2_with fail
  go_ret
  exact ⟨by rw [HP.out];rfl,ba _ _⟩
 ·have HP:Hid (partA (xs,r) i=⟨#[42]⟩):=lh (by unfold partA;rw [List.getElem?_eq_none (show xs.length≤i by omega)];rfl)
  go_enter Tryz.func162,Tryz.ntmps162
  go_wp2_with fail
  go_ret
  exact ⟨by rw [HP.out];rfl,ba _ _⟩
theorem reaches_any (A:Option Addr) (c:Nat) (xs:List ByteArray) (r:Bool) (n:Nat) (w:World) (hc:xs.length≤c) :
 Calls Tryz.prog 139 #[.agg #[.slice A xs.length c,.bool r],.int .i64 n] w fun e w'=>e=.returned (.bool (reachB (xs,r) n))∧Below w.heap.size w w':=by
 have HP:Hid (reachB (xs,r) n=((decide (n=xs.length)&&!r) || (decide (xs.length<n)&&r))):=lh rfl
 rcases Nat.lt_trichotomy n xs.length with hlt|heq|hgt
 ·have e1:((n:Int)==(xs.length:Int))=false:=by simp;omega
  have e2:decide ((xs.length:Int)<(n:Int))=false:=by simp;omega
  have HQ:Hid (reachB (xs,r) n=false):=lh (by rw [HP.out,show decide (n=xs.length)=false from decide_eq_false (by omega),show decide (xs.length<n)=false from decide_eq_false (by omega)];rfl)
  have e3:¬ xs.length<n:=by omega
  have e4:decide (xs.length<n)=false:=decide_eq_false e3
  clear HP
  go_enter Tryz.func139,Tryz.ntmps139
  go_wp2_with fail
  go_ret
  exact ⟨by rw [HQ.out];rfl,ba _ _⟩
 ·have e1:((n:Int)==(xs.length:Int))=true:=by simp;omega
  have e2:decide ((xs.length:Int)<(n:Int))=false:=by simp;omega
  have HQ:Hid (reachB (xs,r) n=!r):=lh (by rw [HP.out,show decide (n=xs.length)=true from decide_eq_true heq,show decide (xs.length<n)=false from decide_eq_false (by omega)];cases r<;>rfl)
  have e3:¬ xs.length<n:=by omega
  have e4:decide (xs.length<n)=false:=decide_eq_false e3
  clear HP heq
  cases r
  all_goals
   go_enter Tryz.func139,Tryz.ntmps139
   go_wp2_with fail
   go_ret
   exact ⟨by rw [HQ.out];rfl,ba _ _⟩
 ·have e1:((n:Int)==(xs.length:Int))=false:=by simp;omega
  have e2:decide ((xs.length:Int)<(n:Int))=true:=by simp;omega
  have HQ:Hid (reachB (xs,r) n=r):=lh (by rw [HP.out,show decide (n=xs.length)=false from decide_eq_false (by omega),show decide (xs.length<n)=true from decide_eq_true (by omega)];cases r<;>rfl)
  have e4:decide (xs.length<n)=true:=decide_eq_true hgt
  clear HP
  cases r
  all_goals
   go_enter Tryz.func139,Tryz.ntmps139
   go_wp2_with fail
   go_ret
   exact ⟨by rw [HQ.out];rfl,ba _ _⟩
open Go.RowKit
theorem cov_iff {h b:Pn} {fr n:Nat}:covB h b fr n=true↔∀ (j:Nat) (y:ByteArray),fr≤j→j<n→h.1[j]? = some y→insB (partA b j) y=true:=by
 unfold covB
 rw [List.all_eq_true]
 constructor
 ·intro hall j y h1 h2 hy
  have:=hall j (List.mem_range.2 h2)
  have hl:=(sI.1 hy).1
  simp only [Bool.or_eq_true,decide_eq_true_eq] at this
  rcases this with (h0|h0)|h0
  ·omega
  ·omega
  ·rw [hy] at h0;exact h0
 ·intro hall j hj
  have hj:=List.mem_range.1 hj
  simp only [Bool.or_eq_true,decide_eq_true_eq]
  by_cases h1:j<fr
  ·exact .inl (.inl h1)
  ·by_cases h2:h.1.length≤j
   ·exact .inl (.inr h2)
   ·obtain ⟨y,hy⟩:∃ y,h.1[j]? = some y:=⟨_,gE (by omega)⟩
    refine .inr ?_
    rw [hy]
    exact hall j y (by omega) hj hy
set_option maxRecDepth 100000 in
theorem covers_any (A B:Option Addr) (c d:Nat) (ys xs:List ByteArray) (t r:Bool) (fr n:Nat) (w:World) (h:RT w A c ys) (k:RT w B d xs) (hy:∀ y∈ys,y.size≤5000) (hx:∀ x∈xs,x.size≤5000) (hn:n≤100000) (hf:fr≤100000) :
 Calls Tryz.prog 140 #[.agg #[.slice A ys.length c,.bool t],.agg #[.slice B xs.length d,.bool r],.int .i64 fr,.int .i64 n] w fun e w'=>e=.returned (.bool (covB (ys,t) (xs,r) fr n))∧Below w.heap.size w w':=by
 have h1:=h.1
 have h2:=h.2.1
 have HY:=lh h
 have HX:=lh k
 have HSY:=lh hy
 have HSX:Hid (∀ i,(partA (xs,r) i).size≤9223372036854775807):=lh (fun i=>by
  unfold partA
  cases hq:xs[i]? with
  | none=>exact Nat.le_trans (show starT.size≤5000 from by decide) (by omega)
  | some x=>exact Nat.le_trans (hx x (mG hq)) (by omega))
 have HS:At (BB w [(w.heap.size,[.slice A ys.length c,.bool t]),(w.heap.size+1,[.slice B xs.length d,.bool r])]) ((w.alloc (.cells #[.slice A ys.length c,.bool t] 45)).alloc (.cells #[.slice B xs.length d,.bool r] 45)) :=
  (((BB.nil w).push [.slice A ys.length c,.bool t] 45 rfl).push [.slice B xs.length d,.bool r] 45 (g:=w.heap.size+1) (by simp)).at_
 have HPA:=lh (fun i W (h:RT W B d xs)=>partAt_any B d xs r i W h)
 clear h k hy hx
 go_enter Tryz.func140,Tryz.ntmps140
 go_wp2_with fail
 go_loopw [9] (fun s wr=>∃ i:Nat,fr≤i∧i≤100000∧s=.int .i64 i∧Hid (∀ (j:Nat) (y:ByteArray),fr≤j→j<i→ys[j]? = some y→insB (partA (xs,r) j) y=true)∧Hid (BB w [(w.heap.size,[.slice A ys.length c,.bool t]),(w.heap.size+1,[.slice B xs.length d,.bool r])] wr)) (fun s _=>n-(intOf s).toNat)
 case atStart=>exact ⟨fr,Nat.le_refl _,hf,rfl,lh (fun j y h1 h2=>by omega),lh HS.out⟩
 case round =>
  clear HS
  obtain ⟨i,hi,hi5,rfl,HI,HS0⟩:=hrel
  have HS:=HS0.out.at_
  clear HS0
  obtain ⟨a0,a1⟩:=(HS.out.get 0 rfl).c2
  by_cases hin:i<n
  ·have g1:decide ((i:Int)<(n:Int))=true:=by simpa using hin
   by_cases hil:i<ys.length
   ·obtain ⟨y,hyi⟩:∃ y,ys[i]? = some y:=⟨_,gE hil⟩
    obtain ⟨b,o,e,hb,hc⟩:=(HY.out.below HS.out.low).2.2 (by omega)
    subst e
    have y0:=hc i y hyi
    have HYC:Hid (∀ W,RT W (some ⟨b,o,none⟩) c ys→W.cell? ⟨b,o+i,none⟩=some (.string y)):=lh (fun W hW=>by
     obtain ⟨b',o',e,_,hc'⟩:=hW.2.2 (by omega)
     cases e
     exact hc' i y hyi)
    have HPW:=lh (fun W=>partWithin_any (partA (xs,r) i) y W (HSX.out i) (Nat.le_trans (HSY.out y (mG hyi)) (by omega)))
    have HNX:Hid (insB (partA (xs,r) i) y=true→∀ (j:Nat) (z:ByteArray),fr≤j→j<i+1→ys[j]? = some z→insB (partA (xs,r) j) z=true):=lh (fun hq j z h1 h2 hz=>by
     rcases Nat.lt_or_ge j i with hlt|hge
     ·exact HI.out j z h1 hlt hz
     ·obtain rfl:j=i:=by omega
      rw [hyi] at hz
      cases hz
      exact hq)
    have HNO:Hid (insB (partA (xs,r) i) y=false→covB (ys,t) (xs,r) fr n=false):=lh (fun hq=>by
     cases hcv:covB (ys,t) (xs,r) fr n with
     | false=>rfl
     | true =>
      have:=cov_iff.1 hcv i y hi hin hyi
      rw [hq] at this
      cases this)
    have HP1:=lh (fun W hW=>HPA.out i W hW)
    generalize insB (partA (xs,r) i) y=q at *
    generalize partA (xs,r) i=p at *
    clear hc hyi HPA HI HSX HSY
    obtain ⟨b0,b1⟩:=(HS.out.get 1 rfl).c2
    go_upto_region 4 with (fail)
    go_region_held3 (fun w'=>w'.cell? ⟨w.heap.size,0,none⟩=some (.slice (some ⟨b,o,none⟩) ys.length c)∧w'.cell? ⟨w.heap.size+1,0,none⟩=some (.slice B xs.length d)∧w'.cell? ⟨w.heap.size+1,1,none⟩=some (.bool r)∧w'.cell? ⟨b,o+i,none⟩=some (.string y))
     (first|exact ⟨((HS.go bB).out.get 0 rfl).c2.1,((HS.go bB).out.get 1 rfl).c2.1,((HS.go bB).out.get 1 rfl).c2.2,HYC.out _ (HY.out.below (HS.go bB).out.low)⟩)
     (first
      | (go_at_call 162;refine (HP1.out _ (HX.out.below (HS.go bB).out.low)).mono ?_;rintro e w1 ⟨rfl,hb1⟩;replace HS:=HS.go2 bB hb1;clear hb1)
      | (go_at_call 121;refine (HPW.out _).mono ?_;rintro e w2 ⟨rfl,hb2⟩;replace HS:=HS.go2 bB hb2;clear hb2))
    all_goals
     cases q with
     | false =>
      have HF:=lh (HNO.out rfl)
      go_wp2_with fail
      go_ret
      exact ⟨by rw [HF.out];rfl,(HS.go bB).out.low⟩
     | true =>
      have HI2:=lh (HNX.out rfl)
      go_wp2_with fail
      go_roundw
      case rel=>exact ⟨i+1,by omega,by omega,by go_num,HI2,lh (HS.go bB).out⟩
      case measure=>simp [intOf];omega
   ·have g2:decide ((i:Int)<(ys.length:Int))=false:=by simp;omega
    have HF:Hid (covB (ys,t) (xs,r) fr n=true):=lh (cov_iff.2 fun j y h1 h2 hz=>HI.out j y h1 (by have:j<ys.length:=(sI.1 hz).1;omega) hz)
    clear HI HPA HSX HSY
    go_wp2_with fail
    go_ret
    exact ⟨by rw [HF.out];rfl,(HS.go bB).out.low⟩
  ·have g1:decide ((i:Int)<(n:Int))=false:=by simp;omega
   have HF:Hid (covB (ys,t) (xs,r) fr n=true):=lh (cov_iff.2 fun j y h1 h2 hz=>HI.out j y h1 (by omega) hz)
   clear HI HPA HSX HSY
   go_wp2_with fail
   go_ret
   exact ⟨by rw [HF.out];rfl,(HS.go bB).out.low⟩
end Go.Proofs.YtelkmeiepliecaaGreatDoor
