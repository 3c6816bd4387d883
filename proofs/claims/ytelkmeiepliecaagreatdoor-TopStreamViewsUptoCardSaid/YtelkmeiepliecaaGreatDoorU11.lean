/-
  Part 11 of the proof.
-/
import Derived.Test.YtelkmeiepliecaaGreatDoorV10
import Derived.Deep.DrawnRows
set_option linter.unusedSimpArgs false
set_option linter.unusedVariables false
set_option maxHeartbeats 16000000
namespace Go.Proofs.YtelkmeiepliecaaGreatDoor
open Go.RowKit
open Pm
theorem PX.set_same {w:World} {g:Nat} {u v:Value} (h:PX w g u v) (a b:Value):PX ((w.setCell ⟨g,0,none⟩ a).setCell ⟨g,1,none⟩ b) g a b:=by
 refine ⟨?_,?_,?_,?_,?_⟩
 ·rw [World.cell?_setCell_other _ _ _ _ (by simp)]
  exact World.cell?_setCell_same _ _ _ h.1
 ·exact World.cell?_setCell_same _ _ _ ((World.cell?_setCell_other _ _ _ _ (by simp)).trans h.2.1)
 ·rw [World.frozen?_setCell,World.frozen?_setCell];exact h.2.2.1
 ·rw [World.frozen?_setCell,World.frozen?_setCell];exact h.2.2.2.1
 ·simpa using h.2.2.2.2
theorem PX.set_cell {w:World} {g:Nat} {u v:Value} (h:PX w g u v) (p:Addr) (hp:p.block≠g) (a:Value):PX (w.setCell p a) g u v:=by
 refine ⟨?_,?_,?_,?_,?_⟩
 ·rw [World.cell?_setCell_other _ _ _ _ (by intro e;exact hp (by rw [e]))];exact h.1
 ·rw [World.cell?_setCell_other _ _ _ _ (by intro e;exact hp (by rw [e]))];exact h.2.1
 ·rw [World.frozen?_setCell];exact h.2.2.1
 ·rw [World.frozen?_setCell];exact h.2.2.2.1
 ·simpa using h.2.2.2.2
def P3 (W:World) (A:Option Addr) (c:Nat) (xs:List ByteArray) (r:Bool) (B:Option Addr) (d:Nat) (ys:List ByteArray) (t:Bool) (w:World):Prop :=
 PX w W.heap.size (.slice A xs.length c) (.bool r)∧PX w (W.heap.size+1) (.slice B ys.length d) (.bool t)∧PX w (W.heap.size+2) (.slice none 0 0) (.bool false)∧RT w A c xs∧RT w B d ys∧Below W.heap.size W w
theorem P3.kept (W:World) (A:Option Addr) (c:Nat) (xs:List ByteArray) (r:Bool) (B:Option Addr) (d:Nat) (ys:List ByteArray) (t:Bool):Kept (P3 W A c xs r B d ys t) :=
 (kept_px _ _ _).both ((kept_px _ _ _).both ((kept_px _ _ _).both ((kept_rt _ _ _).both ((kept_rt _ _ _).both (kept_below W)))))
theorem P3.enter {W:World} {A:Option Addr} {c:Nat} {xs:List ByteArray} {B:Option Addr} {d:Nat} {ys:List ByteArray} (h:RT W A c xs) (k:RT W B d ys) (r t:Bool) (T:TypeId) :
 At (P3 W A c xs r B d ys t) (((W.alloc (.cells #[.slice A xs.length c,.bool r] T)).alloc (.cells #[.slice B ys.length d,.bool t] T)).alloc (.cells #[.slice none 0 0,.bool false] T)) :=
 ⟨P3.kept _ _ _ _ _ _ _ _ _,(PX.fst W _ _ _ _ _).below (ba _ _),(PX.snd W _ _ _ _ _).below (ba _ _),by simpa using PX.new ((W.alloc (.cells #[.slice A xs.length c,.bool r] T)).alloc (.cells #[.slice B ys.length d,.bool t] T)) (.slice none 0 0) (.bool false) T,
  h.below (below_al (below_alloc2 _ _ _) _),k.below (below_al (below_alloc2 _ _ _) _),below_al (below_alloc2 _ _ _) _⟩
theorem P3.cells {W:World} {A:Option Addr} {c:Nat} {xs:List ByteArray} {r:Bool} {B:Option Addr} {d:Nat} {ys:List ByteArray} {t:Bool} {w:World} (h:At (P3 W A c xs r B d ys t) w) :
 PX w W.heap.size (.slice A xs.length c) (.bool r)∧PX w (W.heap.size+1) (.slice B ys.length d) (.bool t)∧PX w (W.heap.size+2) (.slice none 0 0) (.bool false):=⟨h.out.1,h.out.2.1,h.out.2.2.1⟩
theorem P3.x {W:World} {A:Option Addr} {c:Nat} {xs:List ByteArray} {r:Bool} {B:Option Addr} {d:Nat} {ys:List ByteArray} {t:Bool} {w:World} (h:At (P3 W A c xs r B d ys t) w):RT w A c xs:=h.out.2.2.2.1
theorem P3.y {W:World} {A:Option Addr} {c:Nat} {xs:List ByteArray} {r:Bool} {B:Option Addr} {d:Nat} {ys:List ByteArray} {t:Bool} {w:World} (h:At (P3 W A c xs r B d ys t) w):RT w B d ys:=h.out.2.2.2.2.1
theorem P3.b {W:World} {A:Option Addr} {c:Nat} {xs:List ByteArray} {r:Bool} {B:Option Addr} {d:Nat} {ys:List ByteArray} {t:Bool} {w:World} (h:At (P3 W A c xs r B d ys t) w):Below W.heap.size W w:=h.out.2.2.2.2.2
theorem P3.swap {W:World} {A:Option Addr} {c:Nat} {xs:List ByteArray} {r:Bool} {B:Option Addr} {d:Nat} {ys:List ByteArray} {t:Bool} {w:World} (h:At (P3 W A c xs r B d ys t) w) :
 At (P3 W B d ys t A c xs r) ((((w.setCell ⟨W.heap.size,0,none⟩ (.slice B ys.length d)).setCell ⟨W.heap.size,1,none⟩ (.bool t)).setCell ⟨W.heap.size+1,0,none⟩ (.slice A xs.length c)).setCell ⟨W.heap.size+1,1,none⟩ (.bool r)):=by
 obtain ⟨_,h1,h2,h3,h4,h5,h6⟩:=h
 have k2:=(h2.set_cell ⟨W.heap.size,0,none⟩ (by simp) (.slice B ys.length d)).set_cell ⟨W.heap.size,1,none⟩ (by simp) (.bool t)
 refine ⟨P3.kept _ _ _ _ _ _ _ _ _,?_,?_,?_,?_,?_,?_⟩
 ·exact ((h1.set_same _ _).set_cell ⟨W.heap.size+1,0,none⟩ (by simp) _).set_cell ⟨W.heap.size+1,1,none⟩ (by simp) _
 ·exact k2.set_same _ _
 ·exact (((h3.set_cell ⟨W.heap.size,0,none⟩ (by simp) _).set_cell ⟨W.heap.size,1,none⟩ (by simp) _).set_cell ⟨W.heap.size+1,0,none⟩ (by simp) _).set_cell ⟨W.heap.size+1,1,none⟩ (by simp) _
 ·exact (h5.box h1 (slice_ns _ _ _) (bool_ns _) _ _).box k2 (slice_ns _ _ _) (bool_ns _) _ _
 ·exact (h4.box h1 (slice_ns _ _ _) (bool_ns _) _ _).box k2 (slice_ns _ _ _) (bool_ns _) _ _
 ·exact below_box (below_box h6 (Nat.le_refl _) _ _) (by omega) _ _
def RetM (w:World) (zs:List ByteArray) (q ok:Bool) (e:Ending) (w':World):Prop :=
 ∃ C n,e=.returned (.tuple #[.agg #[.slice C zs.length n,.bool q],.bool ok])∧RT w' C n zs∧Below w.heap.size w w'
def RetMO (w:World) (zs:List ByteArray) (q ok:Bool) (e:Ending) (w':World):Prop :=
 (ok=true→RetM w zs q true e w')∧(ok=false→RetM w [] false false e w')
theorem meet_chk (A B:Option Addr) (c d:Nat) (xs ys:List ByteArray) (r t:Bool) (w:World) (h:RT w A c xs) (k:RT w B d ys)
 (hsx:∀ x∈xs,x.size≤9223372036854775807) (hsy:∀ x∈ys,x.size≤9223372036854775807) (hb:((checkP xs r==0)&&(checkP ys t==0)&&compatB xs.length r ys.length t)=false) :
 Calls Tryz.prog 58 #[.agg #[.slice A xs.length c,.bool r],.agg #[.slice B ys.length d,.bool t]] w (RetM w [] false false):=by
 have HI:=P3.enter h k r t 45
 have HCX:=lh (fun W (h:RT W A c xs)=>check_any A c xs r W h hsx)
 have HCY:=lh (fun W (h:RT W B d ys)=>check_any B d ys t W h hsy)
 have HCO:=lh (compatible_any xs.length ys.length r t)
 have hx1:=h.1
 have hx2:=h.2.1
 have hy1:=k.1
 have hy2:=k.2.1
 clear h k hsx hsy
 generalize checkP xs r=n at *
 generalize checkP ys t=m at *
 generalize compatB xs.length r ys.length t=q at *
 have hcase:((n != 0)=true)∨((n != 0)=false∧(m != 0)=true)∨((n != 0)=false∧(m != 0)=false∧q=false):=by
  by_cases hn:n=0
  ·by_cases hm:m=0
   ·subst hn;subst hm
    exact .inr (.inr ⟨rfl,rfl,by simpa using hb⟩)
   ·exact .inr (.inl ⟨by rw [hn];rfl,by rw [bne_iff_ne];exact hm⟩)
  ·exact .inl (by rw [bne_iff_ne];exact hn)
 clear hb
 rcases hcase with hn|⟨hn,hm⟩|⟨hn,hm,rfl⟩ <;>
 ·go_enter Tryz.func58,Tryz.ntmps58
  go_wp2_with (first
   | (go_at_call_of 77 (Value.agg #[.slice A xs.length c,.bool r]);((with_reducible refine (HCX.out _ (P3.x (HI.go bB))).mono ?_);rintro e w1 ⟨rfl,hb⟩);replace HI:=HI.go2 bB hb;clear hb;obtain ⟨⟨p1,p2,p3,p4,p5⟩,⟨q1,q2,q3,q4,q5⟩,⟨r1,r2,r3,r4,r5⟩⟩:=P3.cells HI)
   | (go_at_call_of 77 (Value.agg #[.slice B ys.length d,.bool t]);((with_reducible refine (HCY.out _ (P3.y (HI.go bB))).mono ?_);rintro e w1 ⟨rfl,hb⟩);replace HI:=HI.go2 bB hb;clear hb;obtain ⟨⟨p1,p2,p3,p4,p5⟩,⟨q1,q2,q3,q4,q5⟩,⟨r1,r2,r3,r4,r5⟩⟩:=P3.cells HI)
   | (go_at_call 86;refine (HCO.out _).mono ?_;rintro e w' ⟨rfl,rfl⟩))
  refine bodyPost_ret (v:=.tuple #[.agg #[.slice none 0 0,.bool false],.bool false]) (by simp [results,Tryz.results58,go_sem,r1,r2,r3,r4]) rfl ⟨none,0,rfl,RT.nil _ _ _ (by omega),?_⟩
  exact below_box (P3.b HI) (by omega) _ _
theorem meet_noswap (A B:Option Addr) (c d:Nat) (xs ys:List ByteArray) (r t:Bool) (w:World) (h:RT w A c xs) (k:RT w B d ys)
 (hsx:∀ x∈xs,x.size≤9223372036854775807) (hsy:∀ x∈ys,x.size≤9223372036854775807) (hn:checkP xs r=0) (hm:checkP ys t=0) (hco:compatB xs.length r ys.length t=true) (hle:ys.length≤xs.length) :
 Calls Tryz.prog 58 #[.agg #[.slice A xs.length c,.bool r],.agg #[.slice B ys.length d,.bool t]] w (RetMO w (mzAll xs ys) (r&&t) (okOf nrwOk (xs.zip ys))):=by
 have HI:=P3.enter h k r t 45
 have HCX:=lh (fun W (h:RT W A c xs)=>check_any A c xs r W h hsx)
 have HCY:=lh (fun W (h:RT W B d ys)=>check_any B d ys t W h hsy)
 have HCO:=lh (compatible_any xs.length ys.length r t)
 rw [hn] at HCX
 rw [hm] at HCY
 rw [hco] at HCO
 have hx1:=h.1
 have hx2:=h.2.1
 have hy1:=k.1
 have hy2:=k.2.1
 have hx12:=(check_zero hn).2.1
 have hy12:=(check_zero hm).2.1
 have hx0:=(check_zero hn).1
 have hy0:=(check_zero hm).1
 clear h k hn hm hco
 have HLE:=lh hle
 have HSX:=lh hsx
 have HSY:=lh hsy
 have HCL:=lh (fun W (h:RT W A c xs)=>clone_any A c xs W h hx0 (by omega))
 have hltB:decide (xs.length<ys.length)=false:=decide_eq_false (by omega)
 clear hsx hsy
 go_enter Tryz.func58,Tryz.ntmps58
 go_wp2_with (first
  | (go_at_call_of 77 (Value.agg #[.slice A xs.length c,.bool r]);((with_reducible refine (HCX.out _ (P3.x (HI.go bB))).mono ?_);rintro e w1 ⟨rfl,hb⟩);replace HI:=HI.go2 bB hb;clear hb;obtain ⟨⟨p1,p2,p3,p4,p5⟩,⟨q1,q2,q3,q4,q5⟩,⟨r1,r2,r3,r4,r5⟩⟩:=P3.cells HI)
  | (go_at_call_of 77 (Value.agg #[.slice B ys.length d,.bool t]);((with_reducible refine (HCY.out _ (P3.y (HI.go bB))).mono ?_);rintro e w1 ⟨rfl,hb⟩);replace HI:=HI.go2 bB hb;clear hb;obtain ⟨⟨p1,p2,p3,p4,p5⟩,⟨q1,q2,q3,q4,q5⟩,⟨r1,r2,r3,r4,r5⟩⟩:=P3.cells HI)
  | (go_at_call 86;refine (HCO.out _).mono ?_;rintro e w' ⟨rfl,rfl⟩)
  | (go_at_call 85;refine (HCL.out _ (P3.x (HI.go bB))).mono ?_;rintro e w3 ⟨g,cap,rfl,hoc,hb⟩;obtain ⟨wa,HI,hoc,hbc⟩:∃ wa,At (P3 w A c xs r B d ys t) wa∧OT w3 wa.heap.size (.slice (some ⟨g,0,none⟩) xs.length cap) xs∧Below wa.heap.size wa w3:=⟨_,HI,hoc,hb⟩;have HOC:=lh hoc;have HBC:=lh hbc;clear hoc hbc hb;obtain ⟨⟨p1,p2,p3,p4,p5⟩,⟨q1,q2,q3,q4,q5⟩,⟨r1,r2,r3,r4,r5⟩⟩:=P3.cells (HI.go HBC.out)))
 go_loopw [48] (fun i wr=>∃ k:Nat,k≤ys.length∧i=.int .i64 k∧Hid (OT wr wa.heap.size (.slice (some ⟨g,0,none⟩) xs.length cap) (mz xs ys k))∧Hid (okOf nrwOk ((xs.zip ys).take k)=true)∧Hid (Below wa.heap.size wa wr)) (fun i _=>ys.length-(intOf i).toNat)
 case atStart=>exact ⟨0,Nat.zero_le _,rfl,lh (by rw [mz_zero];exact HOC.out),lh rfl,HBC⟩
 case round =>
  obtain ⟨k,hk,rfl,HO,HOK,HBL⟩:=hrel
  have HJ:=HI.go HBL.out
  have hsz:=HBL.out.size
  obtain ⟨⟨p1,p2,p3,p4,p5⟩,⟨q1,q2,q3,q4,q5⟩,⟨r1,r2,r3,r4,r5⟩⟩:=P3.cells HJ
  by_cases hlt:k<ys.length
  ·have hlu:k<xs.length:=by have:=HLE.out;omega
   obtain ⟨x,hx⟩:∃ x,xs[k]? = some x:=⟨_,gE hlu⟩
   obtain ⟨y,hy⟩:∃ y,ys[k]? = some y:=⟨_,gE hlt⟩
   obtain ⟨b2,o2,rfl,hb2,hc2⟩:=(P3.y HJ).2.2 (by omega)
   have hcy:=hc2 k y hy
   obtain ⟨hcx,hfx,hg1,hg2,-,hcap,hcap2⟩:=HO.out.cell (mz_at hlt hx)
   have hxz:=HSX.out x (mG hx)
   have hyz:=HSY.out y (mG hy)
   have HZ:=lh (zip_get hx hy)
   have HST:=lh (mz_step hx hy)
   have HZX:=lh hx
   have HKL:Hid (k<(mz xs ys k).length):=lh (by rw [mz_len hk HLE.out];exact hlu)
   clear hc2 hx hy hb2
   cases hi:nrwOk x y with
   | true =>
    have HN:=lh (ok_step (g:=nrwOk) HZ.out HOK.out hi)
    go_wp2_with (go_at_call 87;refine (meetPart_any x y _ hxz hyz).mono ?_;rintro e w3 ⟨rfl,hb⟩;have HO3:=lh (HO.out.below hb);obtain ⟨hcx3,hfx3,-,hg3,-,-,-⟩:=HO3.out.cell (mz_at hlt HZX.out);have HBL3:=lh (HBL.out.trans (hb.mono HBL.out.size));clear hb)
    go_roundw
    case rel=>exact ⟨k+1,by omega,by go_num,lh (by rw [←HST.out];exact HO3.out.set HKL.out _),HN,lh (HBL3.out.setCell (p:=⟨g,k,none⟩) hg1 _)⟩
    case measure=>simp [intOf];omega
   | false =>
    have HN:=lh (ok_miss (g:=nrwOk) HZ.out hi)
    go_wp2_with (go_at_call 87;refine (meetPart_any x y _ hxz hyz).mono ?_;rintro e w3 ⟨rfl,hb⟩;have HJ3:=HJ.go hb;obtain ⟨⟨t1,t2,t3,t4,t5⟩,⟨v1,v2,v3,v4,v5⟩,⟨s1,s2,s3,s4,s5⟩⟩:=P3.cells HJ3)
    refine bodyPost_ret (v:=.tuple #[.agg #[.slice none 0 0,.bool false],.bool false]) (by simp [results,Tryz.results58,go_sem,s1,s2,s3,s4]) rfl ⟨fun h=>absurd (HN.out.symm.trans h) (by decide),fun _=>⟨none,0,rfl,RT.nil _ _ _ (by omega),?_⟩⟩
    exact below_box (P3.b HJ3) (by omega) _ _
  ·have HN:Hid (okOf nrwOk (xs.zip ys)=true):=lh (by
    have:=HOK.out
    rwa [List.take_of_length_le (by rw [List.length_zip];have:=HLE.out;omega)] at this)
   have HM:=lh HO.out
   rw [mz_full (by omega) HLE.out hk] at HM
   have HML:=lh (mzAll_len HLE.out)
   have HRM:Hid (RT wr (some ⟨g,0,none⟩) cap (mzAll xs ys)):=lh (by
    obtain ⟨A',c',e,hrt⟩:=HM.out.read
    obtain ⟨rfl,_,rfl⟩:=Value.slice.inj e
    exact hrt)
   cases r<;>cases t <;>
   ·go_wp2_with fail
    first
    | refine bodyPost_ret (v:=.tuple #[.agg #[.slice (some ⟨g,0,none⟩) xs.length cap,.bool true],.bool true]) (by simp [results,Tryz.results58,go_sem,r1,r2,r3,r4]) rfl ⟨fun _=>⟨some ⟨g,0,none⟩,cap,by rw [HML.out];rfl,?_,?_⟩,fun h=>absurd (HN.out.symm.trans h) (by decide)⟩
    | refine bodyPost_ret (v:=.tuple #[.agg #[.slice (some ⟨g,0,none⟩) xs.length cap,.bool false],.bool true]) (by simp [results,Tryz.results58,go_sem,r1,r2,r3,r4]) rfl ⟨fun _=>⟨some ⟨g,0,none⟩,cap,by rw [HML.out];rfl,?_,?_⟩,fun h=>absurd (HN.out.symm.trans h) (by decide)⟩
    ·exact HRM.out.box ⟨r1,r2,r3,r4,r5⟩ (slice_ns _ _ _) (bool_ns _) _ _
    ·exact below_box (P3.b HJ) (by omega) _ _
theorem meet_swap (A B:Option Addr) (c d:Nat) (xs ys:List ByteArray) (r t:Bool) (w:World) (h:RT w A c xs) (k:RT w B d ys)
 (hsx:∀ x∈xs,x.size≤9223372036854775807) (hsy:∀ x∈ys,x.size≤9223372036854775807) (hn:checkP xs r=0) (hm:checkP ys t=0) (hco:compatB xs.length r ys.length t=true) (hlt0:xs.length<ys.length) :
 Calls Tryz.prog 58 #[.agg #[.slice A xs.length c,.bool r],.agg #[.slice B ys.length d,.bool t]] w (RetMO w (mzAll ys xs) (r&&t) (okOf nrwOk (ys.zip xs))):=by
 have HI:=P3.enter h k r t 45
 have HCX:=lh (fun W (h:RT W A c xs)=>check_any A c xs r W h hsx)
 have HCY:=lh (fun W (h:RT W B d ys)=>check_any B d ys t W h hsy)
 have HCO:=lh (compatible_any xs.length ys.length r t)
 rw [hn] at HCX
 rw [hm] at HCY
 rw [hco] at HCO
 have hx1:=h.1
 have hx2:=h.2.1
 have hy1:=k.1
 have hy2:=k.2.1
 have hx12:=(check_zero hn).2.1
 have hy12:=(check_zero hm).2.1
 have hx0:=(check_zero hn).1
 have hy0:=(check_zero hm).1
 clear h k hn hm hco
 have HLE:Hid (xs.length≤ys.length):=lh (by omega)
 have HSX:=lh hsy
 have HSY:=lh hsx
 have HCL:=lh (fun W (h:RT W B d ys)=>clone_any B d ys W h hy0 (by omega))
 clear hsx hsy
 go_enter Tryz.func58,Tryz.ntmps58
 go_wp2_with (first
  | (go_at_call_of 77 (Value.agg #[.slice A xs.length c,.bool r]);((with_reducible refine (HCX.out _ (P3.x (HI.go bB))).mono ?_);rintro e w1 ⟨rfl,hb⟩);replace HI:=HI.go2 bB hb;clear hb;obtain ⟨⟨p1,p2,p3,p4,p5⟩,⟨q1,q2,q3,q4,q5⟩,⟨r1,r2,r3,r4,r5⟩⟩:=P3.cells HI)
  | (go_at_call_of 77 (Value.agg #[.slice B ys.length d,.bool t]);((with_reducible refine (HCY.out _ (P3.y (HI.go bB))).mono ?_);rintro e w1 ⟨rfl,hb⟩);replace HI:=HI.go2 bB hb;clear hb;obtain ⟨⟨p1,p2,p3,p4,p5⟩,⟨q1,q2,q3,q4,q5⟩,⟨r1,r2,r3,r4,r5⟩⟩:=P3.cells HI)
  | (go_at_call 86;refine (HCO.out _).mono ?_;rintro e w' ⟨rfl,rfl⟩)
  | (go_at_call 85;refine (HCL.out _ (P3.x (P3.swap HI))).mono ?_;rintro e w3 ⟨g,cap,rfl,hoc,hb⟩;obtain ⟨wa,HI,hoc,hbc⟩:∃ wa,At (P3 w B d ys t A c xs r) wa∧OT w3 wa.heap.size (.slice (some ⟨g,0,none⟩) ys.length cap) ys∧Below wa.heap.size wa w3:=⟨_,(P3.swap HI),hoc,hb⟩;have HOC:=lh hoc;have HBC:=lh hbc;clear hoc hbc hb;obtain ⟨⟨p1,p2,p3,p4,p5⟩,⟨q1,q2,q3,q4,q5⟩,⟨r1,r2,r3,r4,r5⟩⟩:=P3.cells (HI.go HBC.out)))
 go_loopw [48] (fun i wr=>∃ k:Nat,k≤xs.length∧i=.int .i64 k∧Hid (OT wr wa.heap.size (.slice (some ⟨g,0,none⟩) ys.length cap) (mz ys xs k))∧Hid (okOf nrwOk ((ys.zip xs).take k)=true)∧Hid (Below wa.heap.size wa wr)) (fun i _=>xs.length-(intOf i).toNat)
 case atStart=>exact ⟨0,Nat.zero_le _,rfl,lh (by rw [mz_zero];exact HOC.out),lh rfl,HBC⟩
 case round =>
  obtain ⟨k,hk,rfl,HO,HOK,HBL⟩:=hrel
  have HJ:=HI.go HBL.out
  have hsz:=HBL.out.size
  obtain ⟨⟨p1,p2,p3,p4,p5⟩,⟨q1,q2,q3,q4,q5⟩,⟨r1,r2,r3,r4,r5⟩⟩:=P3.cells HJ
  by_cases hlt:k<xs.length
  ·have hlu:k<ys.length:=by have:=HLE.out;omega
   obtain ⟨x,hx⟩:∃ x,ys[k]? = some x:=⟨_,gE hlu⟩
   obtain ⟨y,hy⟩:∃ y,xs[k]? = some y:=⟨_,gE hlt⟩
   obtain ⟨b2,o2,rfl,hb2,hc2⟩:=(P3.y HJ).2.2 (by omega)
   have hcy:=hc2 k y hy
   obtain ⟨hcx,hfx,hg1,hg2,-,hcap,hcap2⟩:=HO.out.cell (mz_at hlt hx)
   have hxz:=HSX.out x (mG hx)
   have hyz:=HSY.out y (mG hy)
   have HZ:=lh (zip_get hx hy)
   have HST:=lh (mz_step hx hy)
   have HZX:=lh hx
   have HKL:Hid (k<(mz ys xs k).length):=lh (by rw [mz_len hk HLE.out];exact hlu)
   clear hc2 hx hy hb2
   cases hi:nrwOk x y with
   | true =>
    have HN:=lh (ok_step (g:=nrwOk) HZ.out HOK.out hi)
    go_wp2_with (go_at_call 87;refine (meetPart_any x y _ hxz hyz).mono ?_;rintro e w3 ⟨rfl,hb⟩;have HO3:=lh (HO.out.below hb);obtain ⟨hcx3,hfx3,-,hg3,-,-,-⟩:=HO3.out.cell (mz_at hlt HZX.out);have HBL3:=lh (HBL.out.trans (hb.mono HBL.out.size));clear hb)
    go_roundw
    case rel=>exact ⟨k+1,by omega,by go_num,lh (by rw [←HST.out];exact HO3.out.set HKL.out _),HN,lh (HBL3.out.setCell (p:=⟨g,k,none⟩) hg1 _)⟩
    case measure=>simp [intOf];omega
   | false =>
    have HN:=lh (ok_miss (g:=nrwOk) HZ.out hi)
    go_wp2_with (go_at_call 87;refine (meetPart_any x y _ hxz hyz).mono ?_;rintro e w3 ⟨rfl,hb⟩;have HJ3:=HJ.go hb;obtain ⟨⟨t1,t2,t3,t4,t5⟩,⟨v1,v2,v3,v4,v5⟩,⟨s1,s2,s3,s4,s5⟩⟩:=P3.cells HJ3)
    refine bodyPost_ret (v:=.tuple #[.agg #[.slice none 0 0,.bool false],.bool false]) (by simp [results,Tryz.results58,go_sem,s1,s2,s3,s4]) rfl ⟨fun h=>absurd (HN.out.symm.trans h) (by decide),fun _=>⟨none,0,rfl,RT.nil _ _ _ (by omega),?_⟩⟩
    exact below_box (P3.b HJ3) (by omega) _ _
  ·have HN:Hid (okOf nrwOk (ys.zip xs)=true):=lh (by
    have:=HOK.out
    rwa [List.take_of_length_le (by rw [List.length_zip];have:=HLE.out;omega)] at this)
   have HM:=lh HO.out
   rw [mz_full (by omega) HLE.out hk] at HM
   have HML:=lh (mzAll_len HLE.out)
   have HRM:Hid (RT wr (some ⟨g,0,none⟩) cap (mzAll ys xs)):=lh (by
    obtain ⟨A',c',e,hrt⟩:=HM.out.read
    obtain ⟨rfl,_,rfl⟩:=Value.slice.inj e
    exact hrt)
   cases r<;>cases t <;>
   ·go_wp2_with fail
    first
    | refine bodyPost_ret (v:=.tuple #[.agg #[.slice (some ⟨g,0,none⟩) ys.length cap,.bool true],.bool true]) (by simp [results,Tryz.results58,go_sem,r1,r2,r3,r4]) rfl ⟨fun _=>⟨some ⟨g,0,none⟩,cap,by rw [HML.out];rfl,?_,?_⟩,fun h=>absurd (HN.out.symm.trans h) (by decide)⟩
    | refine bodyPost_ret (v:=.tuple #[.agg #[.slice (some ⟨g,0,none⟩) ys.length cap,.bool false],.bool true]) (by simp [results,Tryz.results58,go_sem,r1,r2,r3,r4]) rfl ⟨fun _=>⟨some ⟨g,0,none⟩,cap,by rw [HML.out];rfl,?_,?_⟩,fun h=>absurd (HN.out.symm.trans h) (by decide)⟩
    ·exact HRM.out.box ⟨r1,r2,r3,r4,r5⟩ (slice_ns _ _ _) (bool_ns _) _ _
    ·exact below_box (P3.b HJ) (by omega) _ _
theorem meet_any (A B:Option Addr) (c d:Nat) (xs ys:List ByteArray) (r t:Bool) (w:World) (h:RT w A c xs) (k:RT w B d ys)
 (hsx:∀ x∈xs,x.size≤9223372036854775807) (hsy:∀ x∈ys,x.size≤9223372036854775807) :
 Calls Tryz.prog 58 #[.agg #[.slice A xs.length c,.bool r],.agg #[.slice B ys.length d,.bool t]] w (RetMO w (meetL xs ys) (r&&t) (meetOk xs ys r t)):=by
 unfold meetOk meetL
 cases hb:((checkP xs r==0)&&(checkP ys t==0)&&compatB xs.length r ys.length t) with
 | false =>
  rw [Bool.false_and]
  exact (meet_chk A B c d xs ys r t w h k hsx hsy hb).mono fun _ _ h=>⟨fun e=>(by cases e),fun _=>h⟩
 | true =>
  rw [Bool.true_and]
  rw [Bool.and_eq_true,Bool.and_eq_true,beq_iff_eq,beq_iff_eq] at hb
  by_cases hl:xs.length<ys.length
  ·rw [if_pos hl,if_pos hl]
   exact meet_swap A B c d xs ys r t w h k hsx hsy hb.1.1 hb.1.2 hb.2 hl
  ·rw [if_neg hl,if_neg hl]
   exact meet_noswap A B c d xs ys r t w h k hsx hsy hb.1.1 hb.1.2 hb.2 (by omega)
open Go.RowKit
open Pm
theorem OT.lt' {w:World} {base g n cap:Nat} {xs:List ByteArray} (h:OT w base (.slice (some ⟨g,0,none⟩) n cap) xs) (h0:0<xs.length):g<w.heap.size:=by
 obtain ⟨g',cap',e,_,h2,_⟩:=h.block h0
 obtain ⟨e1,_,_⟩:=Value.slice.inj e
 obtain ⟨rfl,_⟩:=Addr.mk.inj (Option.some.inj e1)
 exact h2
theorem mid_at {done xs:List ByteArray} {k:Nat} {x:ByteArray} (h:done.length=k) (hx:xs[k]? = some x):(done++xs.drop k)[k]? = some x:=by
 rw [List.getElem?_append_right (by omega),h,Nat.sub_self,List.getElem?_drop,Nat.add_zero,hx]
theorem mid_same {done xs:List ByteArray} {k:Nat} {x:ByteArray} (hx:xs[k]? = some x):(done++[x])++xs.drop (k+1)=done++xs.drop k:=by
 rw [drop_cons hx,List.append_assoc];rfl
theorem mid_lt {done xs:List ByteArray} {k:Nat} {x:ByteArray} (h:done.length=k) (hx:xs[k]? = some x):k<(done++xs.drop k).length:=by
 rw [drop_cons hx,List.length_append,List.length_cons];omega
theorem mid_set {done xs:List ByteArray} {k:Nat} {x y:ByteArray} (h:done.length=k) (hx:xs[k]? = some x):(done++xs.drop k).set k y=(done++[y])++xs.drop (k+1):=by
 rw [drop_cons hx,List.set_append_right _ _ (by omega),h,Nat.sub_self,List.append_assoc];rfl
theorem sub_plain (A B:Option Addr) (c d:Nat) (xs:List ByteArray) (bs:List (List ByteArray×Bool)) (w:World) (h:RT w A c xs) (k:BT w B d bs)
 (hsx:∀ x∈xs,x.size≤9223372036854775807) (hbz:∀ b∈bs,∀ x∈b.1,x.size≤9223372036854775807) (hn:checkP xs false=0) (hl:bs.length=wildB stB xs false) (hok:BO (countB stB xs) bs bs.length)
 (hsx5:∀ x∈xs,x.size≤5000) (hbz5:∀ b∈bs,∀ x∈b.1,x.size≤5000) :
 Calls Tryz.prog 89 #[.agg #[.slice A xs.length c,.bool false],.slice B bs.length d] w (RetP w (flC stB tlB xs (bs.map hdP)) false 0):=by
 have HCL:=lh (fun W (h:RT W A c xs)=>clone_any A c xs W h (check_zero hn).1 (by have:=(check_zero hn).2.1;omega))
 have HI:=PS.enter h k false 45
 have HK:=lh (fun W (h:RT W A c xs)=>kinds_any A c xs false W h hsx)
 rw [(kindN_eq hn).1,(kindN_eq hn).2,hn] at HK
 have hx12:=(check_zero hn).2.1
 have hx0:=(check_zero hn).1
 have hst:=count_le stB xs
 have HBZ:=lh hbz
 have hx1:=h.1
 have hx2:=h.2.1
 have hy1:=k.1
 have hy2:=k.2.1
 unfold wildB at hl
 have HGOOD:=lh hok
 have HST:=lh (show countB stB xs=countB stB xs from rfl)
 have HSX5:=lh hsx5
 have HBZ5:=lh hbz5
 generalize hst0:countB stB xs=st at *
 replace HST:=lh hst0
 clear h k hsx hbz hn hok hsx5 hbz5 hst0
 have hl2:(bs.length:Int)=(st:Int):=by simp at hl;omega
 have hl3:((bs.length:Int) != (st:Int))=false:=by rw [hl2];simp
 have hl4:((bs.length:Int)==(st:Int))=true:=by rw [hl2];simp
 have HLE:Hid (st≤bs.length):=lh (by omega)
 clear hl hl2
 go_enter Tryz.func89,Tryz.ntmps89
 go_wp2_with (go_at_call 90;refine (HK.out _ (PS.x (HI.go bB))).mono ?_;rintro e w1 ⟨rfl,hb⟩;replace HI:=HI.go2 bB hb;clear hb;obtain ⟨⟨p1,p2,p3,p4,p5⟩,⟨r1,r2,r3,r4,r5⟩⟩:=PS.cells HI)
 go_loopw [45] (fun i wr=>∃ k:Nat,k≤bs.length∧i=.int .i64 k∧At (PS w A c xs false B d bs) wr∧Hid (BO st bs k)) (fun i _=>bs.length-(intOf i).toNat)
 case atStart=>exact ⟨0,Nat.zero_le _,rfl,HI.go bB,lh (BO.zero _ _)⟩
 case round =>
  obtain ⟨k,hk,rfl,HJ,HO⟩:=hrel
  clear HI p1 p2 p3 p4 p5 r1 r2 r3 r4 r5
  obtain ⟨⟨p1,p2,p3,p4,p5⟩,⟨r1,r2,r3,r4,r5⟩⟩:=PS.cells HJ
  by_cases hlt:k<bs.length
  ·obtain ⟨⟨zs,q⟩,hp⟩:∃ p,bs[k]? = some p:=⟨_,gE hlt⟩
   obtain ⟨b1,o1,rfl,hb1,hc1⟩:=(PS.y HJ).2.2 (by omega)
   obtain ⟨C,e,x1,x2,x3⟩:=hc1 k _ hp
   have hlI:(k:Int)<(bs.length:Int):=by omega
   have hz1:=x3.1
   have hz2:=x3.2.1
   have HR:At (fun w=>RT w C e zs) wr:=⟨kept_rt _ _ _,x3⟩
   have HZS:=lh (HBZ.out _ (mG hp))
   have HP:=lh hp
   have hks:((k:Int)==(st:Int))=decide (k=st):=by
    by_cases e:k=st
    ·rw [e];simp
    ·rw [decide_eq_false e,beq_eq_false_iff_ne];omega
   clear hc1 hp x3
   cases hbo:bindOk zs q (decide (k=st)) with
   | true =>
    have HB:=lh (HO.out.step HP.out hbo)
    have HBI:=lh (fun w h=>isBinding_any C e zs q (decide (k=st)) w h HZS.out)
    rw [hbo] at HBI
    clear hbo
    generalize decide (k=st)=kk at *
    go_wp2_with (go_at_call 124;refine (HBI.out _ (HR.go bB).out).mono ?_;rintro e w3 ⟨rfl,hb⟩;replace HJ:=HJ.go2 bB hb;clear hb)
    go_roundw
    case rel=>exact ⟨k+1,by omega,by go_num,HJ,HB⟩
    case measure=>simp [intOf];omega
   | false =>
    have HB:=lh (BO.no HP.out hbo)
    have HBI:=lh (fun w h=>isBinding_any C e zs q (decide (k=st)) w h HZS.out)
    rw [hbo] at HBI
    clear hbo
    generalize decide (k=st)=kk at *
    exact absurd HGOOD.out HB.out
  ·have HOK:Hid (BO st bs bs.length):=lh (by obtain rfl:k=bs.length:=by omega
                                             exact HO.out)
   clear HBZ
   go_wp2_with (go_at_call 85;refine (HCL.out _ (PS.x (HJ.go bB))).mono ?_;rintro e w3 ⟨g,cap,rfl,hoc,hb⟩;obtain ⟨wa,HJ,hoc,hbc⟩:∃ wa,At (PS w A c xs _ B d bs) wa∧OT w3 wa.heap.size (.slice (some ⟨g,0,none⟩) xs.length cap) xs∧Below wa.heap.size wa w3:=⟨_,HJ,hoc,hb⟩;have HOC:=lh hoc;have HBC:=lh hbc;have hgs:=hbc.size;have hgw:g<w3.heap.size:=OT.lt' hoc hx0;clear hoc hbc hb p1 p2 p3 p4 p5 r1 r2 r3 r4 r5;obtain ⟨⟨p1,p2,p3,p4,p5⟩,⟨r1,r2,r3,r4,r5⟩⟩:=PS.cells (HJ.go HBC.out))
   have HO0:=lh (HOC.out.below (ba w3 (.cells #[.slice (some ⟨g,0,none⟩) xs.length cap,.bool false] 45)))
   have HPX0:=lh (PX.new w3 (.slice (some ⟨g,0,none⟩) xs.length cap) (.bool false) 45)
   have HBL0:=lh (HBC.out.alloc hgs (.cells #[.slice (some ⟨g,0,none⟩) xs.length cap,.bool false] 45))
   clear HBC HOC
   go_loopw [1,65] (fun l i wr=>∃ (k:Nat) (ls:List (List ByteArray×Bool)) (done:List ByteArray) (m:Nat) (B':Option Addr) (d':Nat),k≤xs.length∧i=.int .i64 k∧l=.slice B' m d'∧m≤d'∧d'≤9223372036854775807∧Hid (ls.length=m)∧Hid (BT wa B' d' ls)∧Hid (SI stB tlB xs bs k ls done) ∧
    Hid (OT wr wa.heap.size (.slice (some ⟨g,0,none⟩) xs.length cap) (done++xs.drop k))∧Hid (PX wr w3.heap.size (.slice (some ⟨g,0,none⟩) xs.length cap) (.bool false))∧Hid (Below wa.heap.size wa wr)) (fun _ i _=>xs.length-(intOf i).toNat)
   case atStart=>exact ⟨0,bs,[],bs.length,B,d,Nat.zero_le _,rfl,rfl,hy1,hy2,lh rfl,lh (PS.y HJ),lh (SI.start _ _ _ _),lh (by simpa using HO0.out),HPX0,HBL0⟩
   case round =>
    obtain ⟨k,ls,done,m,B',d',hk,rfl,rfl,hmd,hd9,HM,HBT,HS,HOT,HPX,HBL⟩:=hrel
    clear p1 p2 p3 p4 p5 r1 r2 r3 r4 r5 HO0 HPX0 HBL0
    have HQ:=HJ.go HBL.out
    obtain ⟨⟨p1,p2,p3,p4,p5⟩,⟨r1,r2,r3,r4,r5⟩⟩:=PS.cells HQ
    obtain ⟨t1,t2,t3,t4,t5⟩:=HPX.out
    by_cases hlt:k<xs.length
    ·obtain ⟨x,hx⟩:∃ x,xs[k]? = some x:=⟨_,gE hlt⟩
     obtain ⟨hcx,hfx,hg1,hg2,-,hcap,hcap2⟩:=HOT.out.cell (mid_at HS.out.1 hx)
     have hxz:=HSX5.out x (mG hx)
     have HX:=lh hx
     clear hx
     cases hst:stB x with
     | false =>
      have HS2:=lh (HS.out.part HX.out hst)
      go_wp2_with (go_at_call 97;refine (isStar_any x _).mono ?_;rintro e w' ⟨rfl,rfl⟩)
      go_roundw
      case rel=>exact ⟨k+1,ls,done++[x],m,B',d',by omega,by go_num,rfl,hmd,hd9,HM,HBT,HS2,lh (by rw [mid_same HX.out];exact HOT.out),HPX,HBL⟩
      case measure=>simp [intOf];omega
     | true =>
      have hpos:=stB_pos hst
      obtain ⟨p,ls',rfl,hcnt,hp⟩:=HS.out.next HX.out hst (by rw [HST.out];exact HLE.out)
      obtain ⟨y,rfl,hpy⟩:=HGOOD.out.one (by rw [←HST.out];exact hcnt) hp
      have HS2:=lh (HS.out.star HX.out hst)
      have hyz:=HBZ5.out _ (mG hp) y (by simp)
      have hm1:0<m:=by have:=HM.out;simp at this;omega
      have HM2:Hid (ls'.length=m-1):=lh (by have:=HM.out;simp at this;omega)
      obtain ⟨b3,o3,rfl,hb3,hc3⟩:=(HBT.out.below HBL.out).2.2 (by simp)
      obtain ⟨C,n,x1,x2,x3⟩:=hc3 0 _ rfl
      have y1:wr.cell? ⟨b3,o3,none⟩=some (.slice C 1 n):=by simpa using x1
      have n1:=x3.1
      have n2:=x3.2.1
      simp at n1
      obtain ⟨b4,o4,rfl,hb4,hc4⟩:=x3.2.2 (by simp)
      have hcy:wr.cell? ⟨b4,o4,none⟩=some (.string y):=hc4 0 y rfl
      have hlI:(0:Int)<(m:Int):=by omega
      have hkI:(k:Int)<(xs.length:Int):=by omega
      have hgne:g≠w3.heap.size:=by omega
      clear hc3 hc4 x1 x2 x3 hb3 hb4 hcnt hp hpy
      rcases Nat.lt_or_ge 1 d' with hd1|hd1
      ·go_wp2_with (go_at_call 97;refine (isStar_any x _).mono ?_;rintro e w' ⟨rfl,rfl⟩)
       go_region
       all_goals
        go_wp2_with fail
        go_roundw
        case rel=>exact ⟨k+1,ls',done++[y++tlB x],m-1,some ⟨b3,o3+2,none⟩,d'-1,by omega,by go_num,rfl,by omega,by omega,HM2,lh HBT.out.drop1,HS2,lh (by rw [←mid_set HS.out.1 HX.out];exact (HOT.out.set (mid_lt HS.out.1 HX.out) _).below bB),lh ((PX.set_cell HPX.out ⟨g,k,none⟩ hgne _).below bB),lh (HBL.out.setCell (p:=⟨g,k,none⟩) hg1 _).drew⟩
        case measure=>simp [intOf];omega
      ·obtain rfl:d'=1:=by omega
       obtain rfl:m=1:=by omega
       go_wp2_with (go_at_call 97;refine (isStar_any x _).mono ?_;rintro e w' ⟨rfl,rfl⟩)
       go_region
       all_goals
        go_wp2_with fail
        go_roundw
        case rel=>exact ⟨k+1,ls',done++[y++tlB x],0,some ⟨b3,o3,none⟩,0,by omega,by go_num,rfl,by omega,by omega,HM2,lh (by rw [List.eq_nil_of_length_eq_zero HM2.out];exact BT.nil' _ _ _ (by omega)),HS2,lh (by rw [←mid_set HS.out.1 HX.out];exact (HOT.out.set (mid_lt HS.out.1 HX.out) _).below bB),lh ((PX.set_cell HPX.out ⟨g,k,none⟩ hgne _).below bB),lh (HBL.out.setCell (p:=⟨g,k,none⟩) hg1 _).drew⟩
        case measure=>simp [intOf];omega
    ·obtain rfl:k=xs.length:=by omega
     have HD:=lh (HS.out.done (Nat.le_refl _))
     have HRM:Hid (RT wr (some ⟨g,0,none⟩) cap (flC stB tlB xs (bs.map hdP))):=lh (by
      obtain ⟨A',c',e,hrt⟩:=HOT.out.read
      obtain ⟨rfl,_,rfl⟩:=Value.slice.inj e
      rw [List.drop_length,List.append_nil,HD.out.1] at hrt
      exact hrt)
     go_wp2_with fail
     refine bodyPost_ret (v:=.tuple #[.agg #[.slice (some ⟨g,0,none⟩) xs.length cap,.bool false],.int .i64 0]) (by simp [results,Tryz.results89,go_sem,r1,r2,r3,r4]) rfl ⟨some ⟨g,0,none⟩,cap,by rw [flC_len],?_,?_⟩
     ·exact HRM.out.box ⟨r1,r2,r3,r4,r5⟩ (slice_ns _ _ _) (bool_ns _) _ _
     ·exact below_box (PS.b HQ) (by omega) _ _
open Go.RowKit
open Pm
theorem PX.grown {w w':World} {g:Nat} {u v:Value} {row:Option Nat} (h:PX w g u v) (hg:w.grownBy w' row) (hne:some g≠row):PX w' g u v:=by
 have hb:=hg.block g h.2.2.2.2 hne
 exact ⟨(World.cell?_of_block (w:=w) (a:=⟨g,0,none⟩) hb).trans h.1,(World.cell?_of_block (w:=w) (a:=⟨g,1,none⟩) hb).trans h.2.1,(World.frozen?_of_block (w:=w) (a:=⟨g,0,none⟩) hb).trans h.2.2.1,(World.frozen?_of_block (w:=w) (a:=⟨g,1,none⟩) hb).trans h.2.2.2.1,Nat.lt_of_lt_of_le h.2.2.2.2 hg.size⟩
end Go.Proofs.YtelkmeiepliecaaGreatDoor
