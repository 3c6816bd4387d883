/-
  Part 5 of the proof.
-/
import Derived.Test.YtelkmeiepliecaaGreatDoorV04
set_option linter.unusedSimpArgs false
set_option linter.unusedVariables false
set_option maxHeartbeats 16000000
namespace Go.Proofs.YtelkmeiepliecaaGreatDoor
open Go.RowKit
open Pm
def lensIn (n m:Nat) (r t:Bool):Bool:=if t=true then !decide (n<m)&&!(!r&&decide (n=m)) else !r&&decide (n=m)
def insideOk (g:ByteArray→ByteArray→Bool) (xs ys:List ByteArray) (r t:Bool):Bool:=lensIn xs.length ys.length r t&&okOf g (xs.zip ys)
theorem lensIn_le {n m:Nat} {r t:Bool} (h:lensIn n m r t=true):m≤n:=by
 unfold lensIn at h
 cases t with
 | true =>
  simp only [if_true,Bool.and_eq_true,Bool.not_eq_true',decide_eq_false_iff_not] at h
  omega
 | false =>
  simp only [Bool.false_eq_true,if_false,Bool.and_eq_true,decide_eq_true_eq] at h
  omega
theorem int_facts (n m:Nat):(n<m∧decide (n<m)=true∧((n:Int) != (m:Int))=true∧((n:Int)==(m:Int))=false)∨(n=m∧decide (n<m)=false∧((n:Int) != (m:Int))=false∧((n:Int)==(m:Int))=true)∨(m<n∧decide (n<m)=false∧((n:Int) != (m:Int))=true∧((n:Int)==(m:Int))=false):=by
 rcases Nat.lt_trichotomy n m with h|h|h
 ·refine .inl ⟨h,decide_eq_true h,?_,?_⟩
  ·rw [bne_iff_ne];omega
  ·rw [beq_eq_false_iff_ne];omega
 ·subst h
  exact .inr (.inl ⟨rfl,by simp,by simp,by simp⟩)
 ·refine .inr (.inr ⟨h,decide_eq_false (by omega),?_,?_⟩)
  ·rw [bne_iff_ne];omega
  ·rw [beq_eq_false_iff_ne];omega
theorem inside_bad (A B:Option Addr) (c d:Nat) (xs ys:List ByteArray) (r t:Bool) (w:World) (h:RT w A c xs) (k:RT w B d ys) (hb:lensIn xs.length ys.length r t=false) :
 Calls Tryz.prog 111 #[.agg #[.slice A xs.length c,.bool r],.agg #[.slice B ys.length d,.bool t]] w fun e w'=>e=.returned (.bool false)∧Below w.heap.size w w':=by
 have h1:=h.1
 have h2:=h.2.1
 have k1:=k.1
 have k2:=k.2.1
 have hx9:xs.length≤9223372036854775807:=by omega
 have hy9:ys.length≤9223372036854775807:=by omega
 clear h k h1 h2 k1 k2
 rcases int_facts xs.length ys.length with ⟨f0,f1,f2,f3⟩|⟨f0,f1,f2,f3⟩|⟨f0,f1,f2,f3⟩<;>cases r<;>cases t <;>
 first
 | (exfalso;unfold lensIn at hb;(simp at hb<;>omega))
 | (clear hb f0
    go_enter Tryz.func111,Tryz.ntmps111
    go_wp2_with fail
    go_quiet (fail)
    go_wp2_with fail
    go_ret
    exact ⟨rfl,by repeat (first|exact below_alloc2 _ _ _|apply Below.drew|apply below_drewN)⟩)
theorem inside_good (A B:Option Addr) (c d:Nat) (xs ys:List ByteArray) (r t:Bool) (w:World) (h:RT w A c xs) (k:RT w B d ys) (hg:lensIn xs.length ys.length r t=true)
 (hsx:∀ x∈xs,x.size≤9223372036854775807) (hsy:∀ x∈ys,x.size≤9223372036854775807) :
 Calls Tryz.prog 111 #[.agg #[.slice A xs.length c,.bool r],.agg #[.slice B ys.length d,.bool t]] w fun e w'=>e=.returned (.bool (okOf insB (xs.zip ys)))∧Below w.heap.size w w':=by
 have h1:=h.1
 have h2:=h.2.1
 have k1:=k.1
 have k2:=k.2.1
 have hx9:xs.length≤9223372036854775807:=by omega
 have hy9:ys.length≤9223372036854775807:=by omega
 have hle:=lensIn_le hg
 have HX:=lh h
 have HY:=lh k
 have HSX:=lh hsx
 have HSY:=lh hsy
 have HZL:Hid ((xs.zip ys).length=ys.length):=lh (by rw [List.length_zip];omega)
 have HLE:=lh hle
 clear h k h1 h2 k1 k2 hsx hsy hle
 rcases int_facts xs.length ys.length with ⟨f0,f1,f2,f3⟩|⟨f0,f1,f2,f3⟩|⟨f0,f1,f2,f3⟩<;>cases r<;>cases t <;>
 first
 | (exfalso;unfold lensIn at hg;(simp at hg<;>omega))
 | (clear hg f0
    go_enter Tryz.func111,Tryz.ntmps111
    go_wp2_with fail
    go_quiet (fail)
    go_wp2_with fail
    go_loopw [50] (fun i wr=>∃ k:Nat,k≤ys.length∧i=.int .i64 k∧Hid (okOf insB ((xs.zip ys).take k)=true)∧Hid (Below w.heap.size w wr)∧wr.cell? ⟨w.heap.size,0,none⟩=some (.slice A xs.length c)) (fun i _=>ys.length-(intOf i).toNat)
    case atStart=>exact ⟨0,Nat.zero_le _,rfl,lh rfl,lh (by repeat (first|exact below_alloc2 _ _ _|apply Below.drew|apply below_drewN)),by simp [World.cell?_alloc_new]⟩
    case round =>
     obtain ⟨k,hk,rfl,HOK,HBL,hc0⟩:=hrel
     by_cases hlt:k<ys.length
     ·obtain ⟨x,hx⟩:∃ x,xs[k]? = some x:=⟨_,gE (by have:=HLE.out;omega)⟩
      obtain ⟨y,hy⟩:∃ y,ys[k]? = some y:=⟨_,gE hlt⟩
      obtain ⟨b1,o1,rfl,hb1,hc1⟩:=(HX.out.below HBL.out).2.2 (by have:=HLE.out;omega)
      have hkx:k<xs.length:=by have:=HLE.out;omega
      obtain ⟨b2,o2,rfl,hb2,hc2⟩:=(HY.out.below HBL.out).2.2 (by omega)
      have hcx:=hc1 k x hx
      have hcy:=hc2 k y hy
      have hxz:=HSX.out x (mG hx)
      have hyz:=HSY.out y (mG hy)
      have HZ:=lh (zip_get hx hy)
      clear hc1 hc2 hx hy hb1 hb2
      cases hi:insB x y with
      | true =>
       have HN:=lh (ok_step (g:=insB) HZ.out HOK.out hi)
       go_wp2_with (go_at_call 121;refine (partWithin_any x y _ hxz hyz).mono ?_;rintro e w1 ⟨rfl,hb⟩;have hc1:=(hb.cell (p:=⟨w.heap.size,0,none⟩) (cell_lt hc0)).trans hc0)
       go_roundw
       case rel=>exact ⟨k+1,by omega,by go_num,HN,lh (HBL.out.trans (hb.mono HBL.out.size)),hc1⟩
       case measure=>simp [intOf];omega
      | false =>
       have HN:=lh (ok_miss (g:=insB) HZ.out hi)
       go_wp2_with (go_at_call 121;refine (partWithin_any x y _ hxz hyz).mono ?_;rintro e w1 ⟨rfl,hb⟩)
       go_ret
       exact ⟨ret_bool HN.out.symm,HBL.out.trans (hb.mono HBL.out.size)⟩
     ·have HN:Hid (okOf insB (xs.zip ys)=true):=lh (by
       have:=HOK.out
       rwa [List.take_of_length_le (by have:=HZL.out;omega)] at this)
      go_wp2_with fail
      go_ret
      exact ⟨ret_bool HN.out.symm,HBL.out⟩)
theorem inside_any (A B:Option Addr) (c d:Nat) (xs ys:List ByteArray) (r t:Bool) (w:World) (h:RT w A c xs) (k:RT w B d ys)
 (hsx:∀ x∈xs,x.size≤9223372036854775807) (hsy:∀ x∈ys,x.size≤9223372036854775807) :
 Calls Tryz.prog 111 #[.agg #[.slice A xs.length c,.bool r],.agg #[.slice B ys.length d,.bool t]] w fun e w'=>e=.returned (.bool (insideOk insB xs ys r t))∧Below w.heap.size w w':=by
 unfold insideOk
 cases hl:lensIn xs.length ys.length r t with
 | true=>exact inside_good A B c d xs ys r t w h k hl hsx hsy
 | false=>exact inside_bad A B c d xs ys r t w h k hl
open Go.RowKit
open Pm
theorem PX.fst (w:World) (u v a b:Value) (t:TypeId):PX ((w.alloc (.cells #[u,v] t)).alloc (.cells #[a,b] t)) w.heap.size u v:=(PX.new w u v t).below (ba _ _)
theorem PX.snd (w:World) (u v a b:Value) (t:TypeId):PX ((w.alloc (.cells #[u,v] t)).alloc (.cells #[a,b] t)) (w.heap.size+1) a b:=by
 have:=PX.new (w.alloc (.cells #[u,v] t)) a b t
 simpa using this
def withinOk (g:ByteArray→ByteArray→Bool) (xs ys:List ByteArray) (r t:Bool):Bool:=(checkP xs r==0)&&((checkP ys t==0)&&insideOk g xs ys r t)
theorem within_any (A B:Option Addr) (c d:Nat) (xs ys:List ByteArray) (r t:Bool) (w:World) (h:RT w A c xs) (k:RT w B d ys)
 (hsx:∀ x∈xs,x.size≤9223372036854775807) (hsy:∀ x∈ys,x.size≤9223372036854775807) :
 Calls Tryz.prog 122 #[.agg #[.slice A xs.length c,.bool r],.agg #[.slice B ys.length d,.bool t]] w fun e w'=>e=.returned (.bool (withinOk insB xs ys r t))∧Below w.heap.size w w':=by
 have HX:=lh h
 have HY:=lh k
 have HCX:=lh (fun W (h:RT W A c xs)=>check_any A c xs r W h hsx)
 have HCY:=lh (fun W (h:RT W B d ys)=>check_any B d ys t W h hsy)
 have HIN:=lh (fun W (h:RT W A c xs) (k:RT W B d ys)=>inside_any A B c d xs ys r t W h k hsx hsy)
 have HW:Hid (withinOk insB xs ys r t=((checkP xs r==0)&&((checkP ys t==0)&&insideOk insB xs ys r t))):=lh rfl
 clear h k hsx hsy
 generalize insideOk insB xs ys r t=b at *
 generalize checkP xs r=n at *
 generalize checkP ys t=m at *
 rw [HW.out]
 cases hn:(n==0) with
 | false =>
  rw [Bool.false_and]
  go_enter Tryz.func122,Tryz.ntmps122
  go_wp2_with (go_at_call_of 77 (Value.agg #[.slice A xs.length c,.bool r]);refine (HCX.out _ (HX.out.below (below_alloc2 _ _ _))).mono ?_;rintro e w1 ⟨rfl,hb⟩)
  go_ret
  exact ⟨rfl,(below_alloc2 w _ _).trans (hb.mono (below_alloc2 w _ _).size)⟩
 | true =>
  cases hm:(m==0) with
  | false =>
   rw [Bool.false_and,Bool.and_false]
   go_enter Tryz.func122,Tryz.ntmps122
   go_wp2_with (first
    | (go_at_call_of 77 (Value.agg #[.slice A xs.length c,.bool r]);refine (HCX.out _ (HX.out.below (below_alloc2 _ _ _))).mono ?_;rintro e w1 ⟨rfl,hb⟩;have P1:=lh ((PX.fst w (.slice A xs.length c) (.bool r) (.slice B ys.length d) (.bool t) _).below hb);have Q1:=lh ((PX.snd w (.slice A xs.length c) (.bool r) (.slice B ys.length d) (.bool t) _).below hb);obtain ⟨p1,p2,p3,p4,p5⟩:=P1.out;obtain ⟨q1,q2,q3,q4,q5⟩:=Q1.out;have HB1:=lh ((below_alloc2 w _ _).trans (hb.mono (below_alloc2 w _ _).size));clear hb)
    | (go_at_call_of 77 (Value.agg #[.slice B ys.length d,.bool t]);refine (HCY.out _ (HY.out.below HB1.out)).mono ?_;rintro e w2 ⟨rfl,hb⟩;have HB2:=lh (HB1.out.trans (hb.mono HB1.out.size));clear hb))
   go_ret
   exact ⟨rfl,HB2.out⟩
  | true =>
   rw [Bool.true_and,Bool.true_and]
   go_enter Tryz.func122,Tryz.ntmps122
   go_wp2_with (first
    | (go_at_call_of 77 (Value.agg #[.slice A xs.length c,.bool r]);refine (HCX.out _ (HX.out.below (below_alloc2 _ _ _))).mono ?_;rintro e w1 ⟨rfl,hb⟩;have P1:=lh ((PX.fst w (.slice A xs.length c) (.bool r) (.slice B ys.length d) (.bool t) _).below hb);have Q1:=lh ((PX.snd w (.slice A xs.length c) (.bool r) (.slice B ys.length d) (.bool t) _).below hb);obtain ⟨p1,p2,p3,p4,p5⟩:=P1.out;obtain ⟨q1,q2,q3,q4,q5⟩:=Q1.out;have HB1:=lh ((below_alloc2 w _ _).trans (hb.mono (below_alloc2 w _ _).size));clear hb)
    | (go_at_call_of 77 (Value.agg #[.slice B ys.length d,.bool t]);refine (HCY.out _ (HY.out.below HB1.out)).mono ?_;rintro e w2 ⟨rfl,hb⟩;obtain ⟨s1,s2,s3,s4,s5⟩:=P1.out.below hb;obtain ⟨t1,t2,t3,t4,t5⟩:=Q1.out.below hb;have HB2:=lh (HB1.out.trans (hb.mono HB1.out.size));clear hb)
    | (go_at_call 111;refine (HIN.out _ (HX.out.below HB2.out) (HY.out.below HB2.out)).mono ?_;rintro e w3 ⟨rfl,hb⟩;have HB3:=lh (HB2.out.trans (hb.mono HB2.out.size));clear hb))
   go_ret
   exact ⟨rfl,HB3.out⟩
open Go.RowKit
open Pm
end Go.Proofs.YtelkmeiepliecaaGreatDoor
namespace Go.Proofs.YtelkmeiepliecaaGreatDoor
open Go.RowKit
open Pm
open Go.RowKit
open Pm
def nrw (a b:ByteArray):ByteArray:=if insB a b=true then a else if insB b a=true then b else ⟨#[]⟩
def nrwOk (a b:ByteArray):Bool:=insB a b || insB b a
def compatB (n:Nat) (r:Bool) (m:Nat) (t:Bool):Bool:=if r=true then (if t=true then true else decide (n<m)) else (if t=true then decide (m<n) else decide (n=m))
def mz (us vs:List ByteArray) (k:Nat):List ByteArray:=((us.zip vs).take k).map (fun p=>nrw p.1 p.2)++us.drop k
def mzAll (us vs:List ByteArray):List ByteArray:=(us.zip vs).map (fun p=>nrw p.1 p.2)++us.drop vs.length
def meetOk (xs ys:List ByteArray) (r t:Bool):Bool:=(checkP xs r==0)&&(checkP ys t==0)&&compatB xs.length r ys.length t&&(if xs.length<ys.length then okOf nrwOk (ys.zip xs) else okOf nrwOk (xs.zip ys))
def meetL (xs ys:List ByteArray):List ByteArray:=if xs.length<ys.length then mzAll ys xs else mzAll xs ys
theorem mz_zero (us vs:List ByteArray):mz us vs 0=us:=by simp [mz]
theorem mz_len {us vs:List ByteArray} {k:Nat} (hk:k≤vs.length) (hl:vs.length≤us.length):(mz us vs k).length=us.length:=by
 unfold mz
 rw [List.length_append,List.length_map,List.length_take,List.length_zip,List.length_drop]
 omega
theorem mz_at {us vs:List ByteArray} {k:Nat} {x:ByteArray} (hk:k<vs.length) (hx:us[k]? = some x):(mz us vs k)[k]? = some x:=by
 have hlu:=(sI.1 hx).1
 have hl:(((us.zip vs).take k).map (fun p=>nrw p.1 p.2)).length=k:=by rw [List.length_map,List.length_take,List.length_zip];omega
 unfold mz
 rw [List.getElem?_append_right (by omega),hl,Nat.sub_self,List.getElem?_drop]
 exact hx
theorem mz_step {us vs:List ByteArray} {k:Nat} {x y:ByteArray} (hx:us[k]? = some x) (hy:vs[k]? = some y):(mz us vs k).set k (nrw x y)=mz us vs (k+1):=by
 have hlu:=(sI.1 hx).1
 have hlv:=(sI.1 hy).1
 have hl:(((us.zip vs).take k).map (fun p=>nrw p.1 p.2)).length=k:=by rw [List.length_map,List.length_take,List.length_zip];omega
 have hd:us.drop k=x::us.drop (k+1):=by
  obtain ⟨h1,h2⟩:=sI.1 hx
  rw [List.drop_eq_getElem_cons h1,h2]
 unfold mz
 rw [List.set_append_right _ _ (by omega),hl,Nat.sub_self,hd,List.set_cons_zero,List.take_add_one,zip_get hx hy,List.map_append]
 simp
theorem mz_full {us vs:List ByteArray} {k:Nat} (hk:vs.length≤k) (hl:vs.length≤us.length) (hk2:k≤vs.length):mz us vs k=mzAll us vs:=by
 have:k=vs.length:=by omega
 subst this
 unfold mz mzAll
 rw [List.take_of_length_le (by rw [List.length_zip];omega)]
theorem mzAll_len {us vs:List ByteArray} (hl:vs.length≤us.length):(mzAll us vs).length=us.length:=by
 rw [←mz_full (Nat.le_refl _) hl (Nat.le_refl _)]
 exact mz_len (Nat.le_refl _) hl
theorem OT.set {w:World} {base g n cap:Nat} {xs:List ByteArray} (h:OT w base (.slice (some ⟨g,0,none⟩) n cap) xs) {k:Nat} (hk:k<xs.length) (y:ByteArray) :
 OT (w.setCell ⟨g,k,none⟩ (.string y)) base (.slice (some ⟨g,0,none⟩) n cap) (xs.set k y):=by
 obtain ⟨hl,h⟩:=h
 rcases h with ⟨e,_⟩|⟨g',cap',cur,e,hbg,hh,hnc,hcm,hcs,htk⟩
 ·cases e
 ·cases e
  refine ⟨by simp,.inr ⟨g,cap,cur.setIfInBounds k (.string y),?_,hbg,heap_setCell_same w g k cur _ (.string y) hh,?_,hcm,by simpa using hcs,?_⟩⟩
  ·rw [List.length_set]
  ·rw [List.length_set];exact hnc
  ·rw [List.length_set,Array.toList_setIfInBounds,List.map_set,← htk,List.take_set]
theorem OT.cell {w:World} {base g n cap:Nat} {xs:List ByteArray} (h:OT w base (.slice (some ⟨g,0,none⟩) n cap) xs) {k:Nat} {x:ByteArray} (hx:xs[k]? = some x) :
 w.cell? ⟨g,k,none⟩=some (.string x)∧w.frozen? ⟨g,k,none⟩=false∧base≤g∧g<w.heap.size∧n=xs.length∧n≤cap∧cap≤9223372036854775807:=by
 obtain ⟨hl,h⟩:=h
 rcases h with ⟨e,_⟩|⟨g',cap',cur,e,hbg,hh,hnc,hcm,hcs,htk⟩
 ·cases e
 ·cases e
  have hj:k<xs.length:=(sI.1 hx).1
  have e:(xs.map Value.string)[k]? = some (.string x):=by rw [List.getElem?_map,hx];rfl
  rw [←htk,List.getElem?_take,if_pos (by omega)] at e
  refine ⟨?_,frozen_of_row w g k cur _ hh,hbg,?_,rfl,hnc,by simpa [maxLen] using hcm⟩
  ·rw [cell_of_row w g k cur _ (0,0) hh]
   simpa using e
  ·rcases Nat.lt_or_ge g w.heap.size with h1|h1
   ·exact h1
   ·rw [Array.getElem?_eq_none h1] at hh;cases hh
theorem OT.block {w:World} {base:Nat} {v:Value} {xs:List ByteArray} (h:OT w base v xs) (h0:0<xs.length):∃ g cap,v=.slice (some ⟨g,0,none⟩) xs.length cap∧base≤g∧g<w.heap.size∧xs.length≤cap∧cap≤9223372036854775807:=by
 rcases h.2 with ⟨e,hn⟩|⟨g,cap,cur,e,hbg,hh,hnc,hcm,hcs,htk⟩
 ·omega
 ·refine ⟨g,cap,e,hbg,?_,hnc,by simpa [maxLen] using hcm⟩
  rcases Nat.lt_or_ge g w.heap.size with h1|h1
  ·exact h1
  ·rw [Array.getElem?_eq_none h1] at hh;cases hh
theorem OT.other {w:World} {base:Nat} {v:Value} {xs:List ByteArray} (h:OT w base v xs) {p:Addr} (hp:p.block<base) (u:Value):OT (w.setCell p u) base v xs:=by
 refine ⟨h.1,?_⟩
 rcases h.2 with ⟨rfl,hn⟩|⟨g,cap,cur,rfl,hbg,hh,hrest⟩
 ·exact .inl ⟨rfl,hn⟩
 ·refine .inr ⟨g,cap,cur,rfl,hbg,?_,hrest⟩
  rw [heap_setCell_other _ _ _ _ (by omega)]
  exact hh
theorem OT.made (w:World) (base:Nat) (hb:base≤w.heap.size):OT (w.alloc (.cells #[] 9)) base (.slice (some ⟨w.heap.size,0,none⟩) 0 0) [] :=
 World.ownsRow_made w #[] 0 hb (Nat.zero_le _) rfl
theorem clone_any (A:Option Addr) (c:Nat) (xs:List ByteArray) (w:World) (h:RT w A c xs) (h0:0<xs.length) (hl:xs.length≤100000) :
 Calls Tryz.prog 85 #[.slice A xs.length c] w fun e w'=>∃ g d,e=.returned (.slice (some ⟨g,0,none⟩) xs.length d)∧OT w' w.heap.size (.slice (some ⟨g,0,none⟩) xs.length d) xs∧Below w.heap.size w w':=by
 have h1:=h.1
 have h2:=h.2.1
 obtain ⟨b,o,rfl,hb,hc⟩:=h.2.2 h0
 have HX:=lh h
 clear h hc
 have hq:=fun (W:World)=>Lib.run_eql_slice_nil (P:=Tryz.prog) W 25 9 (some ⟨b,o,none⟩) xs.length c 0 0 Tryz.underlying25
 go_enter Tryz.func85,Tryz.ntmps85
 go_wp2_with (at_builtin;(refine wpList_append_texts rfl _ _ rfl w.heap.size _ [] xs _ c rfl rfl (OT.made w _ (Nat.le_refl _)) (HX.out.below (ba _ _)) (by simp;omega) (by simp) ?_;intro v1 w3 hown hg _;have HBL:=lh ((ba w _).grown hg (by simp) (fun k hk=>by cases hk;exact Nat.le_refl _));rw [List.nil_append] at hown;have HO:=lh hown;obtain ⟨g,cap,rfl,hg1,hg2,hg3,hg4⟩:=hown.block h0;clear hown hg))
 go_ret
 exact ⟨g,cap,rfl,HO.out,HBL.out⟩
theorem meetPart_any (a b:ByteArray) (w:World) (ha:a.size≤9223372036854775807) (hb:b.size≤9223372036854775807) :
 Calls Tryz.prog 87 #[.string a,.string b] w fun e w'=>e=.returned (.tuple #[.string (nrw a b),.bool (nrwOk a b)])∧Below w.heap.size w w':=by
 have HN:Hid (nrw a b=if insB a b=true then a else if insB b a=true then b else ⟨#[]⟩):=lh rfl
 have HK:Hid (nrwOk a b=(insB a b || insB b a)):=lh rfl
 have H1:=lh (fun W=>partWithin_any a b W ha hb)
 have H2:=lh (fun W=>partWithin_any b a W hb ha)
 rw [HN.out,HK.out]
 generalize insB a b=p at *
 generalize insB b a=q at *
 cases p with
 | true =>
  go_enter Tryz.func87,Tryz.ntmps87
  go_wp2_with (go_at_call_of 121 (Value.string a);refine (H1.out _).mono ?_;rintro e w1 ⟨rfl,hb1⟩)
  go_ret2
  exact ⟨rfl,hb1⟩
 | false =>
  cases q <;>
  ·go_enter Tryz.func87,Tryz.ntmps87
   go_wp2_with (first
    | (go_at_call_of 121 (Value.string a);((with_reducible refine (H1.out _).mono ?_);rintro e w1 ⟨rfl,hb1⟩))
    | (go_at_call_of 121 (Value.string b);((with_reducible refine (H2.out _).mono ?_);rintro e w2 ⟨rfl,hb2⟩)))
   go_ret2
   exact ⟨rfl,hb1.trans (hb2.mono hb1.size)⟩
theorem compatible_any (n m:Nat) (r t:Bool) (w:World) :
 Calls Tryz.prog 86 #[.int .i64 n,.bool r,.int .i64 m,.bool t] w fun e w'=>e=.returned (.bool (compatB n r m t))∧w=w':=by
 have HK:Hid (compatB n r m t=if r=true then (if t=true then true else decide (n<m)) else (if t=true then decide (m<n) else decide (n=m))):=lh rfl
 rw [HK.out]
 cases r<;>cases t <;>
 ·go_enter Tryz.func86,Tryz.ntmps86
  go_wp2_with fail
  go_ret
  exact ⟨ret_bool (by first|rfl|(rw [Bool.eq_iff_iff];simp<;>omega)|simp),rfl⟩
open Go.RowKit
open Pm
def countB (st:ByteArray→Bool) (xs:List ByteArray):Nat:=(xs.filter st).length
theorem count_step {st:ByteArray→Bool} {xs:List ByteArray} {k:Nat} {x:ByteArray} (h:xs[k]? = some x):countB st (xs.take (k+1))=countB st (xs.take k)+(if st x=true then 1 else 0):=by
 unfold countB
 rw [List.take_add_one,h,List.filter_append,List.length_append]
 by_cases hx:st x=true
 ·rw [if_pos hx];simp [hx]
 ·rw [if_neg hx];simp [hx]
theorem count_le (st:ByteArray→Bool) (xs:List ByteArray):countB st xs≤xs.length:=List.length_filter_le _ _
theorem count_take (st:ByteArray→Bool) (xs:List ByteArray) (k:Nat):countB st (xs.take k)≤k:=by
 have:=count_le st (xs.take k)
 rw [List.length_take] at this
 omega
def kindN (xs:List ByteArray) (r:Bool):Nat:=if checkP xs r=0 then countB stB xs else 0
def kindR (xs:List ByteArray) (r:Bool):Bool:=if checkP xs r=0 then r else false
theorem kinds_any (A:Option Addr) (c:Nat) (xs:List ByteArray) (r:Bool) (w:World) (h:RT w A c xs) (hsz:∀ x∈xs,x.size≤9223372036854775807) :
 Calls Tryz.prog 90 #[.agg #[.slice A xs.length c,.bool r]] w fun e w'=>e=.returned (.tuple #[.int .i64 (kindN xs r:Nat),.bool (kindR xs r),.int .i64 (checkP xs r)])∧Below w.heap.size w w':=by
 have h1:=h.1
 have h2:=h.2.1
 have HX:=lh h
 have HCK:=lh (fun W (h:RT W A c xs)=>check_any A c xs r W h hsz)
 have HK:Hid (kindN xs r=if checkP xs r=0 then countB stB xs else 0):=lh rfl
 have HKR:Hid (kindR xs r=if checkP xs r=0 then r else false):=lh rfl
 clear h hsz
 by_cases hn:checkP xs r=0
 ·rw [if_pos hn] at HK HKR
  rw [HK.out,HKR.out]
  have hnB:(checkP xs r != 0)=false:=by rw [hn];rfl
  have HN:=lh hn
  rw [hn]
  rw [hn] at HCK
  clear hn hnB
  go_enter Tryz.func90,Tryz.ntmps90
  go_wp2_with (go_at_call 77;refine (HCK.out _ (HX.out.below (ba _ _))).mono ?_;rintro e w1 ⟨rfl,hb⟩;have P1:=lh ((PX.new w (.slice A xs.length c) (.bool r) _).below hb);obtain ⟨p1,p2,p3,p4,p5⟩:=P1.out;have HB1:=lh ((ba w _).trans (hb.mono (ba w _).size));clear hb)
  go_loopw [2,16] (fun n i wr=>∃ k:Nat,k≤xs.length∧i=.int .i64 k∧n=.int .i64 (countB stB (xs.take k):Nat)∧countB stB (xs.take k)≤k∧Hid (Below w.heap.size w wr)∧wr.cell? ⟨w.heap.size,1,none⟩=some (.bool r)) (fun _ i _=>xs.length-(intOf i).toNat)
  case atStart=>exact ⟨0,Nat.zero_le _,rfl,rfl,by simp [countB],HB1,p2⟩
  case round =>
   obtain ⟨k,hk,rfl,rfl,hcn,HBL,hc0⟩:=hrel
   by_cases hlt:k<xs.length
   ·obtain ⟨x,hx⟩:∃ x,xs[k]? = some x:=⟨_,gE hlt⟩
    obtain ⟨b1,o1,rfl,hb1,hc1⟩:=(HX.out.below HBL.out).2.2 (by omega)
    have hcx:=hc1 k x hx
    have hst:=count_step (st:=stB) hx
    have hcn2:=count_take stB xs (k+1)
    clear hc1 hx hb1
    cases hs:stB x with
    | true =>
     rw [hs] at hst
     simp only [if_true] at hst
     have HST:=lh hst
     rw [hst] at hcn2
     clear hst
     generalize countB stB (xs.take k)=m at *
     go_wp2_with (go_at_call 97;refine (isStar_any _ _).mono ?_;rintro e w' ⟨rfl,rfl⟩)
     go_roundw
     case rel=>exact ⟨k+1,by omega,by go_num,by rw [HST.out];go_num,by rw [HST.out];exact hcn2,HBL,hc0⟩
     case measure=>simp [intOf];omega
    | false =>
     rw [hs] at hst
     simp only [Bool.false_eq_true,if_false,Nat.add_zero] at hst
     have HST:=lh hst
     rw [hst] at hcn2
     clear hst
     generalize countB stB (xs.take k)=m at *
     go_wp2_with (go_at_call 97;refine (isStar_any _ _).mono ?_;rintro e w' ⟨rfl,rfl⟩)
     go_roundw
     case rel=>exact ⟨k+1,by omega,by go_num,by rw [HST.out],by rw [HST.out];exact hcn2,HBL,hc0⟩
     case measure=>simp [intOf];omega
   ·have HE:Hid (countB stB (xs.take k)=countB stB xs):=lh (by rw [List.take_of_length_le (by omega)])
    have he:=HE.out
    rw [he]
    clear he
    go_wp2_with fail
    go_quiet (fail)
    go_wp2_with fail
    go_ret3
    exact ⟨rfl,by repeat (first|exact HBL.out|apply Below.drew|apply below_drewN)⟩
 ·rw [if_neg hn] at HK HKR
  rw [HK.out,HKR.out]
  have hnB:(checkP xs r != 0)=true:=by rw [bne_iff_ne];exact hn
  clear hn
  generalize checkP xs r=n at *
  go_enter Tryz.func90,Tryz.ntmps90
  go_wp2_with (go_at_call 77;refine (HCK.out _ (HX.out.below (ba _ _))).mono ?_;rintro e w1 ⟨rfl,hb⟩;have HB1:=lh ((ba w _).trans (hb.mono (ba w _).size));clear hb)
  go_ret3
  exact ⟨rfl,HB1.out⟩
open Go.RowKit
open Pm
def flC (st:ByteArray→Bool) (tl:ByteArray→ByteArray):List ByteArray→List ByteArray→List ByteArray
 | [],_=>[]
 | x::xs,cs=>if st x=true then (cs.headD ⟨#[]⟩++tl x)::flC st tl xs cs.tail else x::flC st tl xs cs
def flOk (st:ByteArray→Bool):List ByteArray→List ByteArray→Bool
 | [],_=>true
 | x::xs,cs=>if st x=true then comp (cs.headD ⟨#[]⟩).data.toList&&flOk st xs cs.tail else flOk st xs cs
theorem flC_len (st:ByteArray→Bool) (tl:ByteArray→ByteArray):∀ (xs cs:List ByteArray),(flC st tl xs cs).length=xs.length
 | [],_=>rfl
 | x::xs,cs=>by
  unfold flC
  split
  ·rw [List.length_cons,flC_len st tl xs cs.tail,List.length_cons]
  ·rw [List.length_cons,flC_len st tl xs cs,List.length_cons]
def lastC (st:ByteArray→Bool) (xs cs:List ByteArray):ByteArray:=(cs.drop (countB st xs)).headD ⟨#[]⟩
def wildB (st:ByteArray→Bool) (xs:List ByteArray) (r:Bool):Nat:=countB st xs+if r=true then 1 else 0
def fillOk (st:ByteArray→Bool) (xs:List ByteArray) (r:Bool) (cs:List ByteArray):Bool :=
 decide (cs.length=wildB st xs r)&&(flOk st xs cs&&(!r || (spB (lastC st xs cs).data.toList).all (fun x=>comp x.data.toList)))
def fillL (st:ByteArray→Bool) (tl:ByteArray→ByteArray) (xs:List ByteArray) (r:Bool) (cs:List ByteArray):List ByteArray :=
 flC st tl xs cs++if r=true then [lastC st xs cs] else []
def fillE (xs:List ByteArray) (r:Bool) (cs:List ByteArray):Int:=if checkP xs r=0 then (if fillOk stB xs r cs=true then 0 else 32) else checkP xs r
def fillT (xs:List ByteArray) (r:Bool) (cs:List ByteArray):ByteArray:=if fillE xs r cs=0 then joinB (fillL stB tlB xs r cs) else ⟨#[]⟩
theorem join_app:∀ (a b:List (List UInt8)),b≠[]→Lib.join (a++b) [47]=Lib.join (a++[Lib.join b [47]]) [47]
 | [],b,hb=>by rw [List.nil_append,List.nil_append,Lib.join_one]
 | x::a,b,hb=>by
  have ih:=join_app a b hb
  rw [List.cons_append,List.cons_append]
  cases a with
  | nil =>
   cases b with
   | nil=>exact absurd rfl hb
   | cons y b =>
    rw [List.nil_append,List.nil_append,Lib.join_cons,Lib.join_cons]
    refine congrArg _ ?_
    rw [Lib.join_cons]
    simp [Lib.joinTail]
  | cons z a =>
   rw [List.cons_append,List.cons_append,Lib.join_cons,Lib.join_cons]
   rw [List.cons_append,List.cons_append,Lib.join_cons,Lib.join_cons] at ih
   refine congrArg _ ?_
   have key:∀ l:List (List UInt8),Lib.joinTail [47] (z::l)=47::(z++Lib.joinTail [47] l):=fun l=>by simp [Lib.joinTail]
   rw [key,key,ih]
theorem joinB_rest (l:List ByteArray) (x:ByteArray):joinB (l++spB x.data.toList)=joinB (l++[x]):=by
 unfold joinB joinL datj
 refine congrArg (fun t=>mkB (47::47::t)) ?_
 rw [List.map_append,List.map_append]
 have e:(spB x.data.toList).map (·.data.toList)=sp x.data.toList:=by
  unfold spB
  rw [List.map_map]
  have:((fun x:ByteArray=>x.data.toList) ∘ mkB)=id:=by funext l;exact mkB_data l
  rw [this,List.map_id]
 rw [e,join_app _ _ (sp_ne _),join_sp]
 rfl
theorem drop_cons {xs:List ByteArray} {k:Nat} {x:ByteArray} (h:xs[k]? = some x):xs.drop k=x::xs.drop (k+1):=by
 obtain ⟨hk,e⟩:=sI.1 h
 rw [List.drop_eq_getElem_cons hk,e]
theorem count_cons (st:ByteArray→Bool) (x:ByteArray) (xs:List ByteArray):countB st (x::xs)=(if st x=true then 1 else 0)+countB st xs:=by
 unfold countB
 by_cases h:st x=true
 ·rw [List.filter_cons_of_pos h,if_pos h,List.length_cons];omega
 ·rw [List.filter_cons_of_neg h,if_neg h];omega
def FI (st:ByteArray→Bool) (tl:ByteArray→ByteArray) (xs cs:List ByteArray) (k:Nat) (ds done:List ByteArray):Prop :=
 done.length=k∧done++flC st tl (xs.drop k) ds=flC st tl xs cs∧flOk st (xs.drop k) ds=flOk st xs cs∧lastC st (xs.drop k) ds=lastC st xs cs ∧
  ∃ j,ds=cs.drop j
theorem FI.start (st:ByteArray→Bool) (tl:ByteArray→ByteArray) (xs cs:List ByteArray):FI st tl xs cs 0 cs []:=⟨rfl,rfl,rfl,rfl,0,rfl⟩
theorem FI.part {st:ByteArray→Bool} {tl:ByteArray→ByteArray} {xs cs:List ByteArray} {k:Nat} {ds done:List ByteArray} {x:ByteArray} (h:FI st tl xs cs k ds done) (hx:xs[k]? = some x) (hs:st x=false) :
 FI st tl xs cs (k+1) ds (done++[x])∧countB st (xs.drop k)=countB st (xs.drop (k+1)):=by
 obtain ⟨h1,h2,h3,h4,h5⟩:=h
 have e:=drop_cons hx
 refine ⟨⟨by simp [h1],?_,?_,?_,h5⟩,?_⟩
 ·rw [←h2,e]
  conv=>rhs;unfold flC
  rw [if_neg (by rw [hs];decide)]
  simp
 ·rw [←h3,e]
  conv=>rhs;unfold flOk
  rw [if_neg (by rw [hs];decide)]
 ·rw [←h4,e]
  unfold lastC
  rw [count_cons,if_neg (by rw [hs];decide),Nat.zero_add]
 ·rw [e,count_cons,if_neg (by rw [hs];decide),Nat.zero_add]
theorem FI.star {st:ByteArray→Bool} {tl:ByteArray→ByteArray} {xs cs:List ByteArray} {k:Nat} {y:ByteArray} {ds done:List ByteArray} {x:ByteArray} (h:FI st tl xs cs k (y::ds) done) (hx:xs[k]? = some x) (hs:st x=true) :
 (comp y.data.toList=true→FI st tl xs cs (k+1) ds (done++[y++tl x]))∧(comp y.data.toList=false→flOk st xs cs=false)∧countB st (xs.drop k)=countB st (xs.drop (k+1))+1:=by
 obtain ⟨h1,h2,h3,h4,j,h5⟩:=h
 have e:=drop_cons hx
 refine ⟨fun hc=>⟨by simp [h1],?_,?_,?_,j+1,?_⟩,fun hc=>?_,?_⟩
 ·rw [←h2,e]
  conv=>rhs;unfold flC
  rw [if_pos hs]
  simp
 ·rw [←h3,e]
  conv=>rhs;unfold flOk
  rw [if_pos hs]
  simp [hc]
 ·rw [←h4,e]
  unfold lastC
  rw [count_cons,if_pos hs,Nat.add_comm 1 (countB st (xs.drop (k+1))),List.drop_succ_cons]
 ·rw [←List.drop_drop,← h5]
  rfl
 ·rw [←h3,e]
  unfold flOk
  rw [if_pos hs]
  simp [hc]
 ·rw [e,count_cons,if_pos hs];omega
theorem FI.done {st:ByteArray→Bool} {tl:ByteArray→ByteArray} {xs cs:List ByteArray} {k:Nat} {ds done:List ByteArray} (h:FI st tl xs cs k ds done) (hk:xs.length≤k) :
 done=flC st tl xs cs∧flOk st xs cs=true∧ds.headD ⟨#[]⟩=lastC st xs cs∧countB st (xs.drop k)=0:=by
 obtain ⟨h1,h2,h3,h4,_⟩:=h
 have e:xs.drop k=[]:=List.drop_eq_nil_of_le hk
 rw [e] at h2 h3 h4
 refine ⟨?_,h3.symm,?_,by rw [e];rfl⟩
 ·rw [←h2]
  simp [flC]
 ·rw [←h4]
  rfl
theorem FI.mem {st:ByteArray→Bool} {tl:ByteArray→ByteArray} {xs cs:List ByteArray} {k:Nat} {ds done:List ByteArray} (h:FI st tl xs cs k ds done) {y:ByteArray} (hy:y∈ds):y∈cs:=by
 obtain ⟨_,_,_,_,j,rfl⟩:=h
 exact List.mem_of_mem_drop hy
theorem flC_size {st:ByteArray→Bool} {tl:ByteArray→ByteArray} (htl:∀ x,(tl x).size≤x.size):∀ {xs cs:List ByteArray},(∀ x∈xs,x.size≤5000)→(∀ x∈cs,x.size≤5000)→∀ x∈flC st tl xs cs,x.size≤10000
 | [],cs,_,_,x,hx=>by cases hx
 | y::xs,cs,h1,h2,x,hx=>by
  unfold flC at hx
  have hy:=h1 y (by simp)
  split at hx
  ·rcases List.mem_cons.1 hx with rfl|hx
   ·have hh:(cs.headD ⟨#[]⟩).size≤5000:=by
     cases cs with
     | nil=>decide
     | cons c cs=>exact h2 c (by simp)
    have:=htl y
    rw [ByteArray.size_append]
    omega
   ·exact flC_size htl (fun z hz=>h1 z (by simp [hz])) (fun z hz=>h2 z (List.mem_of_mem_tail hz)) x hx
  ·rcases List.mem_cons.1 hx with rfl|hx
   ·omega
   ·exact flC_size htl (fun z hz=>h1 z (by simp [hz])) h2 x hx
end Go.Proofs.YtelkmeiepliecaaGreatDoor
