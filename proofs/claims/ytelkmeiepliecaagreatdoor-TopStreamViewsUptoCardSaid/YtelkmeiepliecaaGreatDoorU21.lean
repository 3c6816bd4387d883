/-
  Part 21 of the proof.
-/
import Derived.Test.YtelkmeiepliecaaGreatDoorU20
import Derived.Shelf.SlGeneric
import Derived.Shelf.SlSortCmp.WholeK
import Derived.Shelf.SlicesQ.IndexFunc
import Derived.Ground.SlgfProg
import Derived.Ground.SlsfProg
import Derived.Shelf.SlSortCmp.NoneTotal
set_option linter.unusedSimpArgs false
set_option linter.unusedVariables false
set_option maxHeartbeats 16000000
namespace Go.Proofs.YtelkmeiepliecaaGreatDoor
open Go.RowKit
open Pm
def RetMF (w:World) (zs:List ByteArray) (q ok:Bool) (e:Ending) (w':World):Prop :=
 ∃ C n,e=.returned (.tuple #[.agg #[.slice C zs.length n,.bool q],.bool ok])∧(RT w' C n zs∧∀ p,C=some p→w.heap.size≤p.block)∧Below w.heap.size w w'
def RetMOF (w:World) (zs:List ByteArray) (q ok:Bool) (e:Ending) (w':World):Prop :=
 (ok=true→RetMF w zs q true e w')∧(ok=false→RetMF w [] false false e w')
theorem RetM.fresh0 {w:World} {e:Ending} {w':World} (h:e=.returned (.tuple #[.agg #[.slice none 0 0,.bool false],.bool false])∧Below w.heap.size w w'):RetMF w [] false false e w':=⟨none,0,h.1,⟨RT.nil _ _ _ (by omega),fun p hp=>by cases hp⟩,h.2⟩
theorem meet_chkF (A B:Option Addr) (c d:Nat) (xs ys:List ByteArray) (r t:Bool) (w:World) (h:RT w A c xs) (k:RT w B d ys)
 (hsx:∀ x∈xs,x.size≤9223372036854775807) (hsy:∀ x∈ys,x.size≤9223372036854775807) (hb:((checkP xs r==0)&&(checkP ys t==0)&&compatB xs.length r ys.length t)=false) :
 Calls Tryz.prog 58 #[.agg #[.slice A xs.length c,.bool r],.agg #[.slice B ys.length d,.bool t]] w (RetMF w [] false false):=by
 have HI:=P3.enter h k r t 45
 have HCX:=lh (fun W (h:RT W A c xs)=>check_any A c xs r W h hsx)
 have HCY:=lh (fun W (h:RT W B d ys)=>check_any B d ys t W h hsy)
 have HCO:=lh (compatible_any xs.length ys.length r t)
 have hx1:=h.1
 have hx2:=h.2.1
 have hy1:=k.1
 have hy2:=k.2.1
 clear h k hsx hsy
 generalize checkP xs r=n at *
 generalize checkP ys t=m at *
 generalize compatB xs.length r ys.length t=q at *
 have hcase:((n != 0)=true)∨((n != 0)=false∧(m != 0)=true)∨((n != 0)=false∧(m != 0)=false∧q=false):=by
  by_cases hn:n=0
  ·by_cases hm:m=0
   ·subst hn;subst hm
    exact .inr (.inr ⟨rfl,rfl,by simpa using hb⟩)
   ·exact .inr (.inl ⟨by rw [hn];rfl,by rw [bne_iff_ne];exact hm⟩)
  ·exact .inl (by rw [bne_iff_ne];exact hn)
 clear hb
 rcases hcase with hn|⟨hn,hm⟩|⟨hn,hm,rfl⟩ <;>
 ·go_enter Tryz.func58,Tryz.ntmps58
  go_wp2_with (first
   | (go_at_call_of 77 (Value.agg #[.slice A xs.length c,.bool r]);((with_reducible refine (HCX.out _ (P3.x (HI.go bB))).mono ?_);rintro e w1 ⟨rfl,hb⟩);replace HI:=HI.go2 bB hb;clear hb;obtain ⟨⟨p1,p2,p3,p4,p5⟩,⟨q1,q2,q3,q4,q5⟩,⟨r1,r2,r3,r4,r5⟩⟩:=P3.cells HI)
   | (go_at_call_of 77 (Value.agg #[.slice B ys.length d,.bool t]);((with_reducible refine (HCY.out _ (P3.y (HI.go bB))).mono ?_);rintro e w1 ⟨rfl,hb⟩);replace HI:=HI.go2 bB hb;clear hb;obtain ⟨⟨p1,p2,p3,p4,p5⟩,⟨q1,q2,q3,q4,q5⟩,⟨r1,r2,r3,r4,r5⟩⟩:=P3.cells HI)
   | (go_at_call 86;refine (HCO.out _).mono ?_;rintro e w' ⟨rfl,rfl⟩)
   )
  refine bodyPost_ret (v:=.tuple #[.agg #[.slice none 0 0,.bool false],.bool false]) (by simp [results,Tryz.results58,go_sem,r1,r2,r3,r4]) rfl (RetM.fresh0 ⟨rfl,?_⟩)
  exact below_box (P3.b HI) (by omega) _ _
theorem meet_noswapF (A B:Option Addr) (c d:Nat) (xs ys:List ByteArray) (r t:Bool) (w:World) (h:RT w A c xs) (k:RT w B d ys)
 (hsx:∀ x∈xs,x.size≤9223372036854775807) (hsy:∀ x∈ys,x.size≤9223372036854775807) (hn:checkP xs r=0) (hm:checkP ys t=0) (hco:compatB xs.length r ys.length t=true) (hle:ys.length≤xs.length) :
 Calls Tryz.prog 58 #[.agg #[.slice A xs.length c,.bool r],.agg #[.slice B ys.length d,.bool t]] w (RetMOF w (mzAll xs ys) (r&&t) (okOf nrwOk (xs.zip ys))):=by
 have HI:=P3.enter h k r t 45
 have HCX:=lh (fun W (h:RT W A c xs)=>check_any A c xs r W h hsx)
 have HCY:=lh (fun W (h:RT W B d ys)=>check_any B d ys t W h hsy)
 have HCO:=lh (compatible_any xs.length ys.length r t)
 rw [hn] at HCX
 rw [hm] at HCY
 rw [hco] at HCO
 have hx1:=h.1
 have hx2:=h.2.1
 have hy1:=k.1
 have hy2:=k.2.1
 have hx12:=(check_zero hn).2.1
 have hy12:=(check_zero hm).2.1
 have hx0:=(check_zero hn).1
 have hy0:=(check_zero hm).1
 clear h k hn hm hco
 have HSX:=lh hsx
 have HSY:=lh hsy
 have HLE:=lh hle
 have HCL:=lh (fun W (h:RT W A c xs)=>clone_any A c xs W h hx0 (by omega))
 have hltB:decide (xs.length<ys.length)=false:=decide_eq_false (by omega)
 clear hsx hsy
 go_enter Tryz.func58,Tryz.ntmps58
 go_wp2_with (first
  | (go_at_call_of 77 (Value.agg #[.slice A xs.length c,.bool r]);((with_reducible refine (HCX.out _ (P3.x (HI.go bB))).mono ?_);rintro e w1 ⟨rfl,hb⟩);replace HI:=HI.go2 bB hb;clear hb;obtain ⟨⟨p1,p2,p3,p4,p5⟩,⟨q1,q2,q3,q4,q5⟩,⟨r1,r2,r3,r4,r5⟩⟩:=P3.cells HI)
  | (go_at_call_of 77 (Value.agg #[.slice B ys.length d,.bool t]);((with_reducible refine (HCY.out _ (P3.y (HI.go bB))).mono ?_);rintro e w1 ⟨rfl,hb⟩);replace HI:=HI.go2 bB hb;clear hb;obtain ⟨⟨p1,p2,p3,p4,p5⟩,⟨q1,q2,q3,q4,q5⟩,⟨r1,r2,r3,r4,r5⟩⟩:=P3.cells HI)
  | (go_at_call 86;refine (HCO.out _).mono ?_;rintro e w' ⟨rfl,rfl⟩)
  | (go_at_call 85;refine (HCL.out _ (P3.x (HI.go bB))).mono ?_;rintro e w3 ⟨g,cap,rfl,hoc,hb⟩;obtain ⟨wa,HI,hoc,hbc⟩:∃ wa,At (P3 w A c xs r B d ys t) wa∧OT w3 wa.heap.size (.slice (some ⟨g,0,none⟩) xs.length cap) xs∧Below wa.heap.size wa w3:=⟨_,HI,hoc,hb⟩;have HOC:=lh hoc;have HBC:=lh hbc;clear hoc hbc hb;obtain ⟨⟨p1,p2,p3,p4,p5⟩,⟨q1,q2,q3,q4,q5⟩,⟨r1,r2,r3,r4,r5⟩⟩:=P3.cells (HI.go HBC.out)))
 go_loopw [48] (fun i wr=>∃ k:Nat,k≤ys.length∧i=.int .i64 k∧Hid (OT wr wa.heap.size (.slice (some ⟨g,0,none⟩) xs.length cap) (mz xs ys k))∧Hid (okOf nrwOk ((xs.zip ys).take k)=true)∧Hid (Below wa.heap.size wa wr)) (fun i _=>ys.length-(intOf i).toNat)
 case atStart=>exact ⟨0,Nat.zero_le _,rfl,lh (by rw [mz_zero];exact HOC.out),lh rfl,HBC⟩
 case round =>
  obtain ⟨k,hk,rfl,HO,HOK,HBL⟩:=hrel
  have HJ:=HI.go HBL.out
  have hsz:=HBL.out.size
  obtain ⟨⟨p1,p2,p3,p4,p5⟩,⟨q1,q2,q3,q4,q5⟩,⟨r1,r2,r3,r4,r5⟩⟩:=P3.cells HJ
  by_cases hlt:k<ys.length
  ·have hlu:k<xs.length:=by have:=HLE.out;omega
   obtain ⟨x,hx⟩:∃ x,xs[k]? = some x:=⟨_,gE hlu⟩
   obtain ⟨y,hy⟩:∃ y,ys[k]? = some y:=⟨_,gE hlt⟩
   obtain ⟨b2,o2,rfl,hb2,hc2⟩:=(P3.y HJ).2.2 (by omega)
   have hcy:=hc2 k y hy
   obtain ⟨hcx,hfx,hg1,hg2,-,hcap,hcap2⟩:=HO.out.cell (mz_at hlt hx)
   have hxz:=HSX.out x (mG hx)
   have hyz:=HSY.out y (mG hy)
   have HZ:=lh (zip_get hx hy)
   have HST:=lh (mz_step hx hy)
   have HZX:=lh hx
   have HKL:Hid (k<(mz xs ys k).length):=lh (by rw [mz_len hk HLE.out];exact hlu)
   clear hc2 hx hy hb2
   cases hi:nrwOk x y with
   | true =>
    have HN:=lh (ok_step (g:=nrwOk) HZ.out HOK.out hi)
    go_wp2_with (go_at_call 87;refine (meetPart_any x y _ hxz hyz).mono ?_;rintro e w3 ⟨rfl,hb⟩;have HO3:=lh (HO.out.below hb);obtain ⟨hcx3,hfx3,-,hg3,-,-,-⟩:=HO3.out.cell (mz_at hlt HZX.out);have HBL3:=lh (HBL.out.trans (hb.mono HBL.out.size));clear hb)
    go_roundw
    case rel=>exact ⟨k+1,by omega,by go_num,lh (by rw [←HST.out];exact HO3.out.set HKL.out _),HN,lh (HBL3.out.setCell (p:=⟨g,k,none⟩) hg1 _)⟩
    case measure=>simp [intOf];omega
   | false =>
    have HN:=lh (ok_miss (g:=nrwOk) HZ.out hi)
    go_wp2_with (go_at_call 87;refine (meetPart_any x y _ hxz hyz).mono ?_;rintro e w3 ⟨rfl,hb⟩;have HJ3:=HJ.go hb;obtain ⟨⟨t1,t2,t3,t4,t5⟩,⟨v1,v2,v3,v4,v5⟩,⟨s1,s2,s3,s4,s5⟩⟩:=P3.cells HJ3)
    refine bodyPost_ret (v:=.tuple #[.agg #[.slice none 0 0,.bool false],.bool false]) (by simp [results,Tryz.results58,go_sem,s1,s2,s3,s4]) rfl ⟨fun h=>absurd (HN.out.symm.trans h) (by decide),fun _=>RetM.fresh0 ⟨rfl,?_⟩⟩
    exact below_box (P3.b HJ3) (by omega) _ _
  ·have HN:Hid (okOf nrwOk (xs.zip ys)=true):=lh (by
    have:=HOK.out
    rwa [List.take_of_length_le (by rw [List.length_zip];have:=HLE.out;omega)] at this)
   have HM:=lh HO.out
   rw [mz_full (by omega) HLE.out hk] at HM
   have HML:=lh (mzAll_len HLE.out)
   have HRM:Hid (RT wr (some ⟨g,0,none⟩) cap (mzAll xs ys)):=lh (by
    obtain ⟨A',c',e,hrt⟩:=HM.out.read
    obtain ⟨rfl,_,rfl⟩:=Value.slice.inj e
    exact hrt)
   cases r<;>cases t <;>
   ·go_wp2_with fail
    first
    | refine bodyPost_ret (v:=.tuple #[.agg #[.slice (some ⟨g,0,none⟩) xs.length cap,.bool true],.bool true]) (by simp [results,Tryz.results58,go_sem,r1,r2,r3,r4]) rfl ⟨fun _=>⟨some ⟨g,0,none⟩,cap,by rw [HML.out];rfl,?_,?_⟩,fun h=>absurd (HN.out.symm.trans h) (by decide)⟩
    | refine bodyPost_ret (v:=.tuple #[.agg #[.slice (some ⟨g,0,none⟩) xs.length cap,.bool false],.bool true]) (by simp [results,Tryz.results58,go_sem,r1,r2,r3,r4]) rfl ⟨fun _=>⟨some ⟨g,0,none⟩,cap,by rw [HML.out];rfl,?_,?_⟩,fun h=>absurd (HN.out.symm.trans h) (by decide)⟩
    ·exact ⟨HRM.out.box ⟨r1,r2,r3,r4,r5⟩ (slice_ns _ _ _) (bool_ns _) _ _,fun p hp=>by cases hp;exact Nat.le_trans (P3.b HI).size (HO.out.own g rfl)⟩
    ·exact below_box (P3.b HJ) (by omega) _ _
theorem meet_swapF (A B:Option Addr) (c d:Nat) (xs ys:List ByteArray) (r t:Bool) (w:World) (h:RT w A c xs) (k:RT w B d ys)
 (hsx:∀ x∈xs,x.size≤9223372036854775807) (hsy:∀ x∈ys,x.size≤9223372036854775807) (hn:checkP xs r=0) (hm:checkP ys t=0) (hco:compatB xs.length r ys.length t=true) (hlt0:xs.length<ys.length) :
 Calls Tryz.prog 58 #[.agg #[.slice A xs.length c,.bool r],.agg #[.slice B ys.length d,.bool t]] w (RetMOF w (mzAll ys xs) (r&&t) (okOf nrwOk (ys.zip xs))):=by
 have HI:=P3.enter h k r t 45
 have HCX:=lh (fun W (h:RT W A c xs)=>check_any A c xs r W h hsx)
 have HCY:=lh (fun W (h:RT W B d ys)=>check_any B d ys t W h hsy)
 have HCO:=lh (compatible_any xs.length ys.length r t)
 rw [hn] at HCX
 rw [hm] at HCY
 rw [hco] at HCO
 have hx1:=h.1
 have hx2:=h.2.1
 have hy1:=k.1
 have hy2:=k.2.1
 have hx12:=(check_zero hn).2.1
 have hy12:=(check_zero hm).2.1
 have hx0:=(check_zero hn).1
 have hy0:=(check_zero hm).1
 clear h k hn hm hco
 have HLE:Hid (xs.length≤ys.length):=lh (by omega)
 have HSX:=lh hsy
 have HSY:=lh hsx
 have HCL:=lh (fun W (h:RT W B d ys)=>clone_any B d ys W h hy0 (by omega))
 clear hsx hsy
 go_enter Tryz.func58,Tryz.ntmps58
 go_wp2_with (first
  | (go_at_call_of 77 (Value.agg #[.slice A xs.length c,.bool r]);((with_reducible refine (HCX.out _ (P3.x (HI.go bB))).mono ?_);rintro e w1 ⟨rfl,hb⟩);replace HI:=HI.go2 bB hb;clear hb;obtain ⟨⟨p1,p2,p3,p4,p5⟩,⟨q1,q2,q3,q4,q5⟩,⟨r1,r2,r3,r4,r5⟩⟩:=P3.cells HI)
  | (go_at_call_of 77 (Value.agg #[.slice B ys.length d,.bool t]);((with_reducible refine (HCY.out _ (P3.y (HI.go bB))).mono ?_);rintro e w1 ⟨rfl,hb⟩);replace HI:=HI.go2 bB hb;clear hb;obtain ⟨⟨p1,p2,p3,p4,p5⟩,⟨q1,q2,q3,q4,q5⟩,⟨r1,r2,r3,r4,r5⟩⟩:=P3.cells HI)
  | (go_at_call 86;refine (HCO.out _).mono ?_;rintro e w' ⟨rfl,rfl⟩)
  | (go_at_call 85;refine (HCL.out _ (P3.x (P3.swap HI))).mono ?_;rintro e w3 ⟨g,cap,rfl,hoc,hb⟩;obtain ⟨wa,HI,hoc,hbc⟩:∃ wa,At (P3 w B d ys t A c xs r) wa∧OT w3 wa.heap.size (.slice (some ⟨g,0,none⟩) ys.length cap) ys∧Below wa.heap.size wa w3:=⟨_,(P3.swap HI),hoc,hb⟩;have HOC:=lh hoc;have HBC:=lh hbc;clear hoc hbc hb;obtain ⟨⟨p1,p2,p3,p4,p5⟩,⟨q1,q2,q3,q4,q5⟩,⟨r1,r2,r3,r4,r5⟩⟩:=P3.cells (HI.go HBC.out)))
 go_loopw [48] (fun i wr=>∃ k:Nat,k≤xs.length∧i=.int .i64 k∧Hid (OT wr wa.heap.size (.slice (some ⟨g,0,none⟩) ys.length cap) (mz ys xs k))∧Hid (okOf nrwOk ((ys.zip xs).take k)=true)∧Hid (Below wa.heap.size wa wr)) (fun i _=>xs.length-(intOf i).toNat)
 case atStart=>exact ⟨0,Nat.zero_le _,rfl,lh (by rw [mz_zero];exact HOC.out),lh rfl,HBC⟩
 case round =>
  obtain ⟨k,hk,rfl,HO,HOK,HBL⟩:=hrel
  have HJ:=HI.go HBL.out
  have hsz:=HBL.out.size
  obtain ⟨⟨p1,p2,p3,p4,p5⟩,⟨q1,q2,q3,q4,q5⟩,⟨r1,r2,r3,r4,r5⟩⟩:=P3.cells HJ
  by_cases hlt:k<xs.length
  ·have hlu:k<ys.length:=by have:=HLE.out;omega
   obtain ⟨x,hx⟩:∃ x,ys[k]? = some x:=⟨_,gE hlu⟩
   obtain ⟨y,hy⟩:∃ y,xs[k]? = some y:=⟨_,gE hlt⟩
   obtain ⟨b2,o2,rfl,hb2,hc2⟩:=(P3.y HJ).2.2 (by omega)
   have hcy:=hc2 k y hy
   obtain ⟨hcx,hfx,hg1,hg2,-,hcap,hcap2⟩:=HO.out.cell (mz_at hlt hx)
   have hxz:=HSX.out x (mG hx)
   have hyz:=HSY.out y (mG hy)
   have HZ:=lh (zip_get hx hy)
   have HST:=lh (mz_step hx hy)
   have HZX:=lh hx
   have HKL:Hid (k<(mz ys xs k).length):=lh (by rw [mz_len hk HLE.out];exact hlu)
   clear hc2 hx hy hb2
   cases hi:nrwOk x y with
   | true =>
    have HN:=lh (ok_step (g:=nrwOk) HZ.out HOK.out hi)
    go_wp2_with (go_at_call 87;refine (meetPart_any x y _ hxz hyz).mono ?_;rintro e w3 ⟨rfl,hb⟩;have HO3:=lh (HO.out.below hb);obtain ⟨hcx3,hfx3,-,hg3,-,-,-⟩:=HO3.out.cell (mz_at hlt HZX.out);have HBL3:=lh (HBL.out.trans (hb.mono HBL.out.size));clear hb)
    go_roundw
    case rel=>exact ⟨k+1,by omega,by go_num,lh (by rw [←HST.out];exact HO3.out.set HKL.out _),HN,lh (HBL3.out.setCell (p:=⟨g,k,none⟩) hg1 _)⟩
    case measure=>simp [intOf];omega
   | false =>
    have HN:=lh (ok_miss (g:=nrwOk) HZ.out hi)
    go_wp2_with (go_at_call 87;refine (meetPart_any x y _ hxz hyz).mono ?_;rintro e w3 ⟨rfl,hb⟩;have HJ3:=HJ.go hb;obtain ⟨⟨t1,t2,t3,t4,t5⟩,⟨v1,v2,v3,v4,v5⟩,⟨s1,s2,s3,s4,s5⟩⟩:=P3.cells HJ3)
    refine bodyPost_ret (v:=.tuple #[.agg #[.slice none 0 0,.bool false],.bool false]) (by simp [results,Tryz.results58,go_sem,s1,s2,s3,s4]) rfl ⟨fun h=>absurd (HN.out.symm.trans h) (by decide),fun _=>RetM.fresh0 ⟨rfl,?_⟩⟩
    exact below_box (P3.b HJ3) (by omega) _ _
  ·have HN:Hid (okOf nrwOk (ys.zip xs)=true):=lh (by
    have:=HOK.out
    rwa [List.take_of_length_le (by rw [List.length_zip];have:=HLE.out;omega)] at this)
   have HM:=lh HO.out
   rw [mz_full (by omega) HLE.out hk] at HM
   have HML:=lh (mzAll_len HLE.out)
   have HRM:Hid (RT wr (some ⟨g,0,none⟩) cap (mzAll ys xs)):=lh (by
    obtain ⟨A',c',e,hrt⟩:=HM.out.read
    obtain ⟨rfl,_,rfl⟩:=Value.slice.inj e
    exact hrt)
   cases r<;>cases t <;>
   ·go_wp2_with fail
    first
    | refine bodyPost_ret (v:=.tuple #[.agg #[.slice (some ⟨g,0,none⟩) ys.length cap,.bool true],.bool true]) (by simp [results,Tryz.results58,go_sem,r1,r2,r3,r4]) rfl ⟨fun _=>⟨some ⟨g,0,none⟩,cap,by rw [HML.out];rfl,?_,?_⟩,fun h=>absurd (HN.out.symm.trans h) (by decide)⟩
    | refine bodyPost_ret (v:=.tuple #[.agg #[.slice (some ⟨g,0,none⟩) ys.length cap,.bool false],.bool true]) (by simp [results,Tryz.results58,go_sem,r1,r2,r3,r4]) rfl ⟨fun _=>⟨some ⟨g,0,none⟩,cap,by rw [HML.out];rfl,?_,?_⟩,fun h=>absurd (HN.out.symm.trans h) (by decide)⟩
    ·exact ⟨HRM.out.box ⟨r1,r2,r3,r4,r5⟩ (slice_ns _ _ _) (bool_ns _) _ _,fun p hp=>by cases hp;exact Nat.le_trans (P3.b HI).size (HO.out.own g rfl)⟩
    ·exact below_box (P3.b HJ) (by omega) _ _
theorem meet_anyF (A B:Option Addr) (c d:Nat) (xs ys:List ByteArray) (r t:Bool) (w:World) (h:RT w A c xs) (k:RT w B d ys)
 (hsx:∀ x∈xs,x.size≤9223372036854775807) (hsy:∀ x∈ys,x.size≤9223372036854775807) :
 Calls Tryz.prog 58 #[.agg #[.slice A xs.length c,.bool r],.agg #[.slice B ys.length d,.bool t]] w (RetMOF w (meetL xs ys) (r&&t) (meetOk xs ys r t)):=by
 unfold meetOk meetL
 cases hb:((checkP xs r==0)&&(checkP ys t==0)&&compatB xs.length r ys.length t) with
 | false =>
  rw [Bool.false_and]
  exact (meet_chkF A B c d xs ys r t w h k hsx hsy hb).mono fun _ _ h=>⟨fun e=>(by cases e),fun _=>h⟩
 | true =>
  rw [Bool.true_and]
  rw [Bool.and_eq_true,Bool.and_eq_true,beq_iff_eq,beq_iff_eq] at hb
  by_cases hl:xs.length<ys.length
  ·rw [if_pos hl,if_pos hl]
   exact meet_swapF A B c d xs ys r t w h k hsx hsy hb.1.1 hb.1.2 hb.2 hl
  ·rw [if_neg hl,if_neg hl]
   exact meet_noswapF A B c d xs ys r t w h k hsx hsy hb.1.1 hb.1.2 hb.2 (by omega)
end Go.Proofs.YtelkmeiepliecaaGreatDoor
namespace Go.Proofs
open Go.Shelf
def Tryz.layConP_ren:Go.Shelf.Ren:=⟨fun|8=>71|6=>99|n=>n,fun|22=>46|23=>45|25=>144|4=>4|3=>3|0=>0|n=>n,fun|n=>n⟩
theorem Tryz.layConP:Go.Proofs.SlLaysH0.n8 Tryz.prog Tryz.layConP_ren:={
 mixed:=by kernel_rfl
 f6:=⟨Tryz.f99.name,by decide,Tryz.func99.trans (congrArg some (by kernel_rfl))⟩
 f8:=⟨Tryz.f71.name,by decide,Tryz.func71.trans (congrArg some (by kernel_rfl))⟩
 t0:=Tryz.underlying0
 a0:=Tryz.isAgg0
 z0:=Tryz.sizeOf0
 v0:=Tryz.zeroValue0
 t3:=Tryz.underlying3
 a3:=Tryz.isAgg3
 z3:=Tryz.sizeOf3
 v3:=Tryz.zeroValue3
 t4:=Tryz.underlying4
 a4:=Tryz.isAgg4
 z4:=Tryz.sizeOf4
 v4:=Tryz.zeroValue4
 t22:=Tryz.underlying46
 a22:=Tryz.isAgg46
 z22:=Tryz.sizeOf46
 v22:=Tryz.zeroValue46
 t25:=Tryz.underlying144
 a25:=Tryz.isAgg144
 z25:=Tryz.sizeOf144
 v25:=Tryz.zeroValue144 }
def Tryz.layConH_ren:Go.Shelf.Ren:=⟨fun|8=>112|6=>137|n=>n,fun|22=>185|23=>188|25=>195|4=>4|3=>3|0=>0|n=>n,fun|n=>n⟩
theorem Tryz.layConH:Go.Proofs.SlLaysH0.n8 Tryz.prog Tryz.layConH_ren:={
 mixed:=by kernel_rfl
 f6:=⟨Tryz.f137.name,by decide,Tryz.func137.trans (congrArg some (by kernel_rfl))⟩
 f8:=⟨Tryz.f112.name,by decide,Tryz.func112.trans (congrArg some (by kernel_rfl))⟩
 t0:=Tryz.underlying0
 a0:=Tryz.isAgg0
 z0:=Tryz.sizeOf0
 v0:=Tryz.zeroValue0
 t3:=Tryz.underlying3
 a3:=Tryz.isAgg3
 z3:=Tryz.sizeOf3
 v3:=Tryz.zeroValue3
 t4:=Tryz.underlying4
 a4:=Tryz.isAgg4
 z4:=Tryz.sizeOf4
 v4:=Tryz.zeroValue4
 t22:=Tryz.underlying185
 a22:=Tryz.isAgg185
 z22:=Tryz.sizeOf185
 v22:=Tryz.zeroValue185
 t25:=Tryz.underlying195
 a25:=Tryz.isAgg195
 z25:=Tryz.sizeOf195
 v25:=Tryz.zeroValue195 }
def Tryz.laySortH_ren:Go.Shelf.Ren:=⟨fun|6=>105|15=>135|14=>134|28=>159|29=>160|20=>151|21=>152|22=>153|23=>154|24=>155|25=>156|26=>157|27=>158|46=>170|47=>171|48=>172|49=>173|50=>174|57=>180|n=>n,fun|22=>185|24=>188|25=>191|3=>3|39=>219|0=>0|53=>235|55=>237|4=>4|46=>229|45=>228|50=>117|5=>5|9=>9|66=>245|70=>249|76=>251|77=>252|n=>n,fun|n=>n⟩
theorem Tryz.laySortH:Go.Proofs.SlLaysF0.n6 Tryz.prog Tryz.laySortH_ren:={
 mixed:=by kernel_rfl
 f6:=⟨Tryz.f105.name,by decide,Tryz.func105.trans (congrArg some (by kernel_rfl))⟩
 f14:=⟨Tryz.f134.name,by decide,Tryz.func134.trans (congrArg some (by kernel_rfl))⟩
 f15:=Tryz.func135.trans (congrArg some (by kernel_rfl))
 f20:=⟨Tryz.f151.name,by decide,Tryz.func151.trans (congrArg some (by kernel_rfl))⟩
 f21:=⟨Tryz.f152.name,by decide,Tryz.func152.trans (congrArg some (by kernel_rfl))⟩
 f22:=⟨Tryz.f153.name,by decide,Tryz.func153.trans (congrArg some (by kernel_rfl))⟩
 f23:=⟨Tryz.f154.name,by decide,Tryz.func154.trans (congrArg some (by kernel_rfl))⟩
 f24:=⟨Tryz.f155.name,by decide,Tryz.func155.trans (congrArg some (by kernel_rfl))⟩
 f25:=⟨Tryz.f156.name,by decide,Tryz.func156.trans (congrArg some (by kernel_rfl))⟩
 f26:=⟨Tryz.f157.name,by decide,Tryz.func157.trans (congrArg some (by kernel_rfl))⟩
 f27:=⟨Tryz.f158.name,by decide,Tryz.func158.trans (congrArg some (by kernel_rfl))⟩
 f28:=Tryz.func159.trans (congrArg some (by kernel_rfl))
 f29:=Tryz.func160.trans (congrArg some (by kernel_rfl))
 f46:=⟨Tryz.f170.name,by decide,Tryz.func170.trans (congrArg some (by kernel_rfl))⟩
 f47:=Tryz.func171.trans (congrArg some (by kernel_rfl))
 f48:=Tryz.func172.trans (congrArg some (by kernel_rfl))
 f49:=⟨Tryz.f173.name,by decide,Tryz.func173.trans (congrArg some (by kernel_rfl))⟩
 f50:=⟨Tryz.f174.name,by decide,Tryz.func174.trans (congrArg some (by kernel_rfl))⟩
 f57:=⟨Tryz.f180.name,by decide,Tryz.func180.trans (congrArg some (by kernel_rfl))⟩
 t0:=Tryz.underlying0
 a0:=Tryz.isAgg0
 z0:=Tryz.sizeOf0
 v0:=Tryz.zeroValue0
 t3:=Tryz.underlying3
 a3:=Tryz.isAgg3
 z3:=Tryz.sizeOf3
 v3:=Tryz.zeroValue3
 t4:=Tryz.underlying4
 a4:=Tryz.isAgg4
 z4:=Tryz.sizeOf4
 v4:=Tryz.zeroValue4
 t5:=Tryz.underlying5
 a5:=Tryz.isAgg5
 z5:=Tryz.sizeOf5
 v5:=Tryz.zeroValue5
 t9:=Tryz.underlying9
 a9:=Tryz.isAgg9
 z9:=Tryz.sizeOf9
 v9:=Tryz.zeroValue9
 t22:=Tryz.underlying185
 a22:=Tryz.isAgg185
 z22:=Tryz.sizeOf185
 v22:=Tryz.zeroValue185
 t25:=Tryz.underlying191
 a25:=Tryz.isAgg191
 z25:=Tryz.sizeOf191
 v25:=Tryz.zeroValue191
 t39:=Tryz.underlying219
 a39:=Tryz.isAgg219
 z39:=Tryz.sizeOf219
 v39:=Tryz.zeroValue219
 t45:=Tryz.underlying228
 a45:=Tryz.isAgg228
 z45:=Tryz.sizeOf228
 v45:=Tryz.zeroValue228
 t46:=Tryz.underlying229
 a46:=Tryz.isAgg229
 z46:=Tryz.sizeOf229
 v46:=Tryz.zeroValue229
 t50:=Tryz.underlying117
 a50:=Tryz.isAgg117
 z50:=Tryz.sizeOf117
 v50:=Tryz.zeroValue117
 t53:=Tryz.underlying235
 a53:=Tryz.isAgg235
 z53:=Tryz.sizeOf235
 v53:=Tryz.zeroValue235
 t55:=Tryz.underlying237
 a55:=Tryz.isAgg237
 z55:=Tryz.sizeOf237
 v55:=Tryz.zeroValue237
 t66:=Tryz.underlying245
 a66:=Tryz.isAgg245
 z66:=Tryz.sizeOf245
 v66:=Tryz.zeroValue245
 t70:=Tryz.underlying249
 a70:=Tryz.isAgg249
 z70:=Tryz.sizeOf249
 v70:=Tryz.zeroValue249
 t76:=Tryz.underlying251
 a76:=Tryz.isAgg251
 z76:=Tryz.sizeOf251
 v76:=Tryz.zeroValue251
 t77:=Tryz.underlying252
 a77:=Tryz.isAgg252
 z77:=Tryz.sizeOf252
 v77:=Tryz.zeroValue252 }
end Go.Proofs
namespace Go.Proofs.YtelkmeiepliecaaGreatDoor
open Go.RowKit Go.Shelf
open Go.Sort (SWO grow alloc_eq_grow grow_grow PermIn SortedIn HoldsK)
structure Ho where
 A:Option Addr
 n:Nat
 p:Pn
instance : Inhabited Ho:=⟨⟨none,0,([],false)⟩⟩
def Ho.enc (h:Ho):List Value:=[.slice h.A h.p.1.length h.n,.bool h.p.2,.string (txt h.p)]
def Ho.key (h:Ho):ByteArray:=txt h.p
def cmpH (x y:Ho):Int:=Lib.compareBytes (txt x.p).data.toList (txt y.p).data.toList
theorem cmp_lt:∀ a b:List UInt8,decide (Lib.compareBytes a b<0)=decide (a<b)
 | [],[]=>by simp [Lib.compareBytes]
 | [],_::_=>by simp [Lib.compareBytes]
 | _::_,[]=>by simp [Lib.compareBytes]
 | a::ar,b::br=>by
  unfold Lib.compareBytes
  rw [decide_eq_decide,List.cons_lt_cons_iff]
  by_cases h1:a<b
  ·simp [h1]
  ·rw [if_neg h1]
   by_cases h2:b<a
   ·rw [if_pos h2]
    have:a≠b:=fun e=>by rw [e] at h2;exact UInt8.lt_irrefl _ h2
    simp [h1,this]
   ·rw [if_neg h2]
    have e:a=b:=UInt8.le_antisymm (UInt8.not_lt.1 h2) (UInt8.not_lt.1 h1)
    have:=cmp_lt ar br
    rw [decide_eq_decide] at this
    simp [h1,e,this]
theorem lt_cmpH (x y:Ho):ltOf cmpH x y=decide ((txt x.p).data.toList<(txt y.p).data.toList):=cmp_lt _ _
theorem swo_H:SWO (ltOf cmpH) where
 irrefl x:=by rw [lt_cmpH];simp [List.lt_irrefl]
 trans x y z h1 h2:=by rw [lt_cmpH,decide_eq_true_eq] at *;exact List.lt_trans h1 h2
 ntrans x y z h1 h2:=by rw [lt_cmpH,decide_eq_false_iff_not,List.not_lt] at *;exact List.le_trans h2 h1
theorem red1_any (x y:Ho) (W:World):Calls Tryz.prog 106 #[.agg x.enc.toArray,.agg y.enc.toArray] W fun e w'=>e=.returned (.int .i64 (cmpH x y))∧∃ q os',w'=grow (W.drewN q) os':=by
 have HC:=lh (fun W=>compareB_any (txt x.p) (txt y.p) W)
 unfold Ho.enc cmpH
 generalize txt x.p=a at *
 generalize txt y.p=b at *
 generalize Lib.compareBytes a.data.toList b.data.toList=r at *
 go_enter Tryz.func106,Tryz.ntmps106
 go_wp2_with (go_at_call 107;refine (HC.out _).mono ?_;rintro e w' ⟨rfl,rfl⟩)
 go_ret
 exact ⟨rfl,0,_,by rw [alloc_eq_grow,alloc_eq_grow,grow_grow];rfl⟩
theorem red2_any (x y:Ho) (W:World):Calls Tryz.prog 109 #[.agg #[.slice x.A x.p.1.length x.n,.bool x.p.2,.string (txt x.p)],.agg #[.slice y.A y.p.1.length y.n,.bool y.p.2,.string (txt y.p)]] W fun e w'=>e=.returned (.bool (decide (txt x.p=txt y.p)))∧Below W.heap.size W w':=by
 have HE:Hid (((txt x.p).toList==(txt y.p).toList)=decide (txt x.p=txt y.p)):=lh (by
  by_cases e:txt x.p=txt y.p
  ·rw [e];simp
  ·rw [decide_eq_false e,beq_eq_false_iff_ne]
   intro e2
   exact e (by rw [←mkB_back (txt x.p),← mkB_back (txt y.p),← Lib.toList_data,← Lib.toList_data,e2]))
 generalize decide (txt x.p=txt y.p)=q at *
 generalize txt x.p=a at *
 generalize txt y.p=b at *
 have h0:=HE.out
 go_enter Tryz.func109,Tryz.ntmps109
 go_wp2_with fail
 go_ret
 exact ⟨by first|rfl|simp [h0]|rw [h0],bB⟩
open Go.RowKit Go.Shelf
open Go.Sort (SWO grow alloc_eq_grow grow_grow PermIn SortedIn HoldsK flatK)
def HB (w:World) (g cap:Nat) (hs:List Ho):Prop:=BX w g (hs.map Ho.enc).flatten∧hs.length≤cap∧cap≤9223372036854775807
def HM (w:World) (g:Nat) (hs:List Ho):Prop:=∀ h∈hs,RT w h.A h.n h.p.1∧∀ a,h.A=some a→a.block≠g
theorem enc_len (hs:List Ho):∀ r∈hs.map Ho.enc,r.length=3:=fun r h=>by
 obtain ⟨x,_,rfl⟩:=List.mem_map.1 h
 rfl
theorem HB.cell {w:World} {g cap:Nat} {hs:List Ho} (h:HB w g cap hs) {j:Nat} {x:Ho} (hx:hs[j]? = some x) :
 w.cell? ⟨g,j * 3,none⟩=some (.slice x.A x.p.1.length x.n)∧w.cell? ⟨g,j * 3+1,none⟩=some (.bool x.p.2)∧w.cell? ⟨g,j * 3+2,none⟩=some (.string (txt x.p)):=by
 have hj:(hs.map Ho.enc)[j]? = some x.enc:=by rw [List.getElem?_map,hx];rfl
 exact ⟨h.1.1 _ _ (flat_at (enc_len hs) j _ hj 0 _ rfl),h.1.1 _ _ (flat_at (enc_len hs) j _ hj 1 _ rfl),h.1.1 _ _ (flat_at (enc_len hs) j _ hj 2 _ rfl)⟩
theorem HB.below {w w':World} {g cap:Nat} {hs:List Ho} (h:HB w g cap hs) (hb:Below w.heap.size w w'):HB w' g cap hs:=⟨h.1.below hb,h.2⟩
theorem HM.below {w w':World} {g:Nat} {hs:List Ho} (h:HM w g hs) (hb:Below w.heap.size w w'):HM w' g hs:=fun x hx=>⟨(h x hx).1.below hb,(h x hx).2⟩
theorem HM.grown {w w':World} {g:Nat} {hs:List Ho} (h:HM w g hs) (hg:w.grownBy w' (some g)):HM w' g hs:=fun x hx =>
 ⟨(h x hx).1.away hg (fun b o e e2=>(h x hx).2 _ e (by cases e2;rfl)),(h x hx).2⟩
theorem HM.perm {w:World} {g:Nat} {hs hs':List Ho} (h:HM w g hs) (hp:∀ x∈hs',x∈hs):HM w g hs':=fun x hx=>h x (hp x hx)
theorem holds_of {w:World} {g cap:Nat} {hs:List Ho} (h:HB w g cap hs):HoldsK Ho.enc 3 w g 0 hs.toArray:=fun t ht=>by
 have ht':t<hs.length * 3:=by simpa using ht
 have hj:t / 3<hs.length:=by omega
 obtain ⟨x,hx⟩:∃ x,hs[t / 3]? = some x:=⟨_,gE hj⟩
 obtain ⟨c0,c1,c2⟩:=h.cell hx
 have e:(flatK Ho.enc 3 hs.toArray)[t]! = (x.enc)[t % 3]! := by
  rw [Go.Sort.get_flatK Ho.enc 3 hs.toArray t (by simpa using ht')]
  congr 2
  rw [getElem!_pos hs.toArray _ (by simpa using hj)]
  have:=(sI.1 hx).2
  simpa using this
 refine ⟨?_,h.1.2.1 _⟩
 rw [e,Nat.zero_add]
 have h3:t=t / 3 * 3+t % 3:=by omega
 have h4:t % 3<3:=Nat.mod_lt _ (by omega)
 generalize t % 3=i at *
 generalize t / 3=q at *
 subst h3
 match i,h4 with
 | 0,_=>exact c0
 | 1,_=>exact c1
 | 2,_=>exact c2
theorem of_holds {w:World} {g cap:Nat} {hs:List Ho} (h:HoldsK Ho.enc 3 w g 0 hs.toArray) (hf:∀ i,w.frozen? ⟨g,i,none⟩=false) (hg:g<w.heap.size) (h1:hs.length≤cap) (h2:cap≤9223372036854775807):HB w g cap hs:=by
 refine ⟨⟨fun j u hu=>?_,hf,hg⟩,h1,h2⟩
 obtain ⟨r,hr,hru⟩:=flat_of (by decide) (enc_len hs) j u hu
 rw [List.getElem?_map] at hr
 obtain ⟨x,hx,rfl⟩:=Option.map_eq_some_iff.1 hr
 have hj:=(sI.1 hx).1
 have:=(h j (by simp;omega)).1
 rw [Go.Sort.get_flatK Ho.enc 3 hs.toArray j (by simp;omega),Nat.zero_add] at this
 rw [this]
 congr 1
 have e1:hs.toArray[j / 3]! = x:=by
  rw [getElem!_pos hs.toArray _ (by simpa using hj)]
  simpa using (sI.1 hx).2
 rw [e1]
 have:=sI.1 hru
 rw [getElem!_pos x.enc _ this.1]
 exact this.2
theorem grown_sort {w:World} {g n:Nat} {d:Array Ho} {os:Array Obj}:w.grownBy (sortWorldK Ho.enc 3 w g 0 n d os) (some g) :=
 ⟨rfl,rfl,rfl,size_sortWorldK_c Ho.enc 3 w g 0 n d os,fun k hk hne=>by
  have hk':k≠g:=fun e=>hne (by rw [e])
  unfold sortWorldK Go.Sort.putRowK Go.Sort.putRow Go.Sort.mapBlock grow
  simp only [Go.Sort.heap_ahead]
  rw [Array.getElem?_append_left (by simpa using hk),Array.getElem?_modify,if_neg (Ne.symm hk')]⟩
theorem sort_any (g cap:Nat) (hs:List Ho) (w:World) (h:HB w g cap hs) (hm:HM w g hs) (hl2:hs.length≤1000000) :
 Calls Tryz.prog 105 #[.slice (some ⟨g,0,none⟩) hs.length cap,.func (.func 106) #[] #[]] w fun e w'=>e=.returned (.tuple #[])∧(∃ hs',hs'.Perm hs∧(hs'.map Ho.p).Pairwise (fun a b=>leT a b=true)∧HB w' g cap hs'∧HM w' g hs')∧w.grownBy w' (some g):=by
 have hl:=h.2.1
 have hc:=h.2.2
 have hcon:=AnyQ.slices_SortFunc Tryz.laySortH 3 Tryz.isAgg188 Tryz.sizeOf188 Ho.enc (fun _=>rfl) (fun x v hv=>by
  unfold Ho.enc at hv
  simp only [List.mem_cons,List.not_mem_nil,or_false] at hv
  rcases hv with rfl|rfl|rfl<;>rfl) cmpH swo_H 106 #[] g 0 cap hs.toArray w (enters_of Tryz.func106 (by kernel_rfl) rfl)
  (fun _ _ _ _ x y=>red1_any x y _) (holds_of h) h.1.2.2 (by simp;omega)
 refine hcon.mono ?_
 rintro e w' ⟨he,d',n,os,hp,hso,rfl⟩
 have hsz:d'.size=hs.length:=by simpa using hp.1
 have hperm:d'.toList.Perm hs:=by
  have h1:=hp.2.2
  have e1:d'.extract 0 hs.toArray.size=d':=by
   rw [←hp.1];exact Array.extract_size
  have e2:hs.toArray.extract 0 hs.toArray.size=hs.toArray:=Array.extract_size
  rw [e1,e2] at h1
  exact h1
 refine ⟨he,⟨d'.toList,?_,?_,?_,?_⟩,grown_sort⟩
 ·exact hperm
 ·rw [List.pairwise_map,List.pairwise_iff_getElem]
  intro i j hi hj hij
  have:=hso i j (Nat.zero_le _) hij (by rw [←hp.1];simpa using hj)
  rw [lt_cmpH,getElem!_pos d' _ (by simpa using hj),getElem!_pos d' _ (by simpa using hi)] at this
  unfold leT
  simpa using this
 ·have hd:d'.toList.toArray=d':=by simp
  refine of_holds (hs:=d'.toList) ?_ (fun i=>?_) ?_ ?_ hc
  ·rw [hd]
   exact Go.Proofs.holdsK_sortWorldK Ho.enc 3 w g 0 n hs.toArray d' os h.1.2.2 (holds_of h) hp.1
  ·unfold sortWorldK
   rw [Go.Sort.frozen?_grow _ _ _ (by simpa [Go.Sort.putRowK] using h.1.2.2)]
   unfold Go.Sort.putRowK
   rw [Go.Sort.frozen?_putRow]
   exact h.1.2.1 i
  ·exact Nat.lt_of_lt_of_le h.1.2.2 grown_sort.size
  ·have:=hp.1
   simp at this ⊢
   omega
 ·refine (hm.grown grown_sort).perm fun x hx=>?_
  exact hperm.mem_iff.1 hx
end Go.Proofs.YtelkmeiepliecaaGreatDoor
