/-
  Part 3 of the proof.
-/
import Derived.Test.YtelkmeiepliecaaGreatDoorV02
set_option linter.unusedSimpArgs false
set_option linter.unusedVariables false
set_option maxHeartbeats 16000000
namespace Go.Proofs.YtelkmeiepliecaaGreatDoor
open Go.RowKit
open Pm
def stB (x:ByteArray):Bool:=Lib.hasPrefix x.data.toList [42]
def tlB (x:ByteArray):ByteArray:=x.extract 1 x.size
def starOk (x:ByteArray):Bool:=stB x&&(x.data.toList.drop 1).all isB
def formB (x:ByteArray):Int:=if comp x.data.toList=true then 1 else if starOk x=true then 2 else 0
theorem stB_nil {x:ByteArray} (h:x.size=0):stB x=false:=by
 unfold stB
 rw [bytes_nil h]
 rfl
theorem stB_eq {x:ByteArray} (h:0<x.size):stB x=decide (x[0]=42):=by
 have e:x.data.toList=x[0]::x.data.toList.tail:=by
  obtain ⟨⟨l⟩⟩:=x
  cases l with
  | nil=>exact absurd h (Nat.lt_irrefl 0)
  | cons c l=>rfl
 unfold stB Lib.hasPrefix
 rw [e]
 simp only [List.isPrefixOf,Bool.and_true]
 rw [Bool.eq_iff_iff,beq_iff_eq,decide_eq_true_iff]
 exact eq_comm
theorem tlB_data (x:ByteArray):(tlB x).data.toList=x.data.toList.drop 1:=Lib.extract_to_end x 1
theorem tlB_size (x:ByteArray):(tlB x).size≤x.size:=piece_size _ _ _
theorem isStar_any (x:ByteArray) (w:World) :
 Calls Tryz.prog 97 #[.string x] w fun e w'=>e=.returned (.bool (stB x))∧w=w':=by
 go_enter Tryz.func97,Tryz.ntmps97
 go_wp2_with (go_at_call 103;refine (hasPrefix_any _ _ _).mono ?_;rintro e w' ⟨rfl,rfl⟩)
 go_ret
 exact ⟨rfl,rfl⟩
theorem drop_step (s:ByteArray) (k:Nat) (h1:1≤k) (h:k<s.size) :
 ((s.data.toList.drop 1).take k).all isB=(((s.data.toList.drop 1).take (k-1)).all isB&&isBI (s[k].toNat:Int)):=by
 obtain ⟨j,rfl⟩:∃ j,k=j+1:=⟨k-1,by omega⟩
 rw [Nat.add_sub_cancel]
 have hj:(s.data.toList.drop 1)[j]? = some s[j+1]:=by
  rw [List.getElem?_drop,Nat.add_comm 1 j]
  exact Lib.data_getElem? s (j+1) h
 rw [List.take_add_one,hj,List.all_append]
 simp [isB]
theorem drop_miss {s:ByteArray} {k:Nat} (h1:1≤k) (h:k<s.size) (hb:isBI (s[k].toNat:Int)=false):(s.data.toList.drop 1).all isB=false:=by
 rw [Bool.eq_false_iff]
 intro hh
 obtain ⟨j,rfl⟩:∃ j,k=j+1:=⟨k-1,by omega⟩
 have hj:(s.data.toList.drop 1)[j]? = some s[j+1]:=by
  rw [List.getElem?_drop,Nat.add_comm 1 j]
  exact Lib.data_getElem? s (j+1) h
 have:=List.all_eq_true.1 hh _ (List.mem_of_getElem? hj)
 rw [isB,hb] at this
 cases this
theorem drop_full {s:ByteArray} {k:Nat} (h:s.size≤k) (hA:((s.data.toList.drop 1).take (k-1)).all isB=true):(s.data.toList.drop 1).all isB=true:=by
 rwa [List.take_of_length_le (by rw [List.length_drop,← Lib.size_eq];omega)] at hA
theorem formOf_any (x:ByteArray) (w:World) (hs:x.size≤9223372036854775807) :
 Calls Tryz.prog 114 #[.string x] w fun e w'=>e=.returned (.int .i64 (formB x))∧w=w':=by
 cases hc:comp x.data.toList with
 | true =>
  have HF:Hid (formB x=1):=Lib.hid (by unfold formB;rw [if_pos hc])
  go_enter Tryz.func114,Tryz.ntmps114
  go_wp2_with (go_at_call 93;refine (component_any _ _ (by omega)).mono ?_;rintro e w' ⟨rfl,rfl⟩)
  go_ret
  exact ⟨ret_int HF.out.symm,rfl⟩
 | false =>
  cases hst:Lib.hasPrefix x.data.toList [42] with
  | false =>
   have HF:Hid (formB x=0):=Lib.hid (by
    unfold formB starOk stB
    rw [if_neg (by rw [hc];decide),hst]
    rfl)
   go_enter Tryz.func114,Tryz.ntmps114
   go_wp2_with (first
    | (go_at_call 93;refine (component_any _ _ (by omega)).mono ?_;rintro e w' ⟨rfl,rfl⟩)
    | (go_at_call 103;refine (hasPrefix_any _ _ _).mono ?_;rintro e w' ⟨rfl,rfl⟩))
   go_ret
   exact ⟨ret_int HF.out.symm,rfl⟩
  | true =>
   have hpos:0<x.size:=by
    apply Classical.byContradiction
    intro h
    have:=stB_nil (x:=x) (by omega)
    unfold stB at this
    rw [hst] at this
    cases this
   have HF:Hid (formB x=if (x.data.toList.drop 1).all isB=true then 2 else 0):=Lib.hid (by
    unfold formB starOk stB
    rw [if_neg (by rw [hc];decide),hst,Bool.true_and])
   go_enter Tryz.func114,Tryz.ntmps114
   go_wp2_with (first
    | (go_at_call 93;refine (component_any _ _ (by omega)).mono ?_;rintro e w' ⟨rfl,rfl⟩)
    | (go_at_call 103;refine (hasPrefix_any _ _ _).mono ?_;rintro e w' ⟨rfl,rfl⟩))
   go_loop [3] (fun i=>∃ k:Nat,1≤k∧k≤x.size∧i=.int .i64 k∧Hid (((x.data.toList.drop 1).take (k-1)).all isB=true)) (fun i=>x.size-(intOf i).toNat)
   case atStart=>exact ⟨1,Nat.le_refl _,hpos,rfl,Lib.hid (by simp)⟩
   case round =>
    obtain ⟨k,hk1,hk,rfl,HA⟩:=hrel
    by_cases hlt:k<x.size
    ·have HS:=Lib.hid (drop_step x k hk1 hlt)
     cases hb:isBI (x[k].toNat:Int) with
     | true =>
      go_wp2_with (go_at_call 127;refine (isByte_any _ _).mono ?_;rintro e w' ⟨rfl,rfl⟩)
      go_round
      case rel=>exact ⟨k+1,by omega,by omega,by go_num,Lib.hid (by rw [Nat.add_sub_cancel,HS.out,HA.out,hb];rfl)⟩
      case measure=>simp [intOf];omega
     | false =>
      have HM:=Lib.hid (drop_miss hk1 hlt hb)
      go_wp2_with (go_at_call 127;refine (isByte_any _ _).mono ?_;rintro e w' ⟨rfl,rfl⟩)
      go_ret
      exact ⟨ret_int (by rw [HF.out,HM.out];rfl),rfl⟩
    ·have HM:=Lib.hid (drop_full (k:=k) (by omega) HA.out)
     go_wp2_with fail
     go_ret
     exact ⟨ret_int (by rw [HF.out,HM.out];rfl),rfl⟩
theorem ret_sb {a b:ByteArray} {n m:Bool} (h:a=b) (h2:n=m):Ending.returned (.tuple #[.string a,.bool n])=.returned (.tuple #[.string b,.bool m]):=by rw [h,h2]
def partB (x:ByteArray):Bool:=starOk x || comp x.data.toList
open Go.RowKit
open Pm
theorem form_zero (x:ByteArray):formB x=0↔partB x=false:=by
 unfold formB partB
 cases comp x.data.toList<;>cases starOk x<;>simp
theorem form_one (x:ByteArray):formB x=1↔comp x.data.toList=true:=by
 unfold formB
 cases comp x.data.toList<;>cases starOk x<;>simp
theorem form_cases (x:ByteArray):formB x=0∨formB x=1∨formB x=2:=by
 unfold formB
 cases comp x.data.toList<;>cases starOk x<;>simp
def partsOk:List ByteArray→Bool
 | []=>false
 | x::r=>comp x.data.toList&&r.all partB
def checkP (xs:List ByteArray) (r:Bool):Int :=
 if xs.length=0∨(xs.length=1∧r=false) then 30 else if partsOk xs=false then 30 else if 12<xs.length then 31 else 0
def PB (w:World) (g:Nat) (A:Option Addr) (n c:Nat) (r:Bool):Prop :=
 w.cell? ⟨g,0,none⟩=some (.slice A n c)∧w.cell? ⟨g,1,none⟩=some (.bool r)∧g<w.heap.size
theorem PB.new (w:World) (A:Option Addr) (n c:Nat) (r:Bool) (t:TypeId):PB (w.alloc (.cells #[.slice A n c,.bool r] t)) w.heap.size A n c r :=
 ⟨by simp [World.cell?_alloc_new],by simp [World.cell?_alloc_new],by simp⟩
theorem below_alloc (w:World) (o:Obj):Below w.heap.size w (w.alloc o):=(Below.refl _ _).alloc (Nat.le_refl _) _
def PO (xs:List ByteArray) (k:Nat):Prop:=∀ j x,j<k→xs[j]? = some x→partB x=true∧(j=0→comp x.data.toList=true)
theorem PO.zero (xs:List ByteArray):PO xs 0:=fun j x h=>absurd h (Nat.not_lt_zero _)
theorem PO.next {xs:List ByteArray} {k:Nat} {x:ByteArray} (h:PO xs k) (hx:xs[k]? = some x) (h1:partB x=true) (h2:k=0→comp x.data.toList=true):PO xs (k+1):=fun j y hj hy=>by
 by_cases e:j=k
 ·subst e
  rw [hx] at hy
  cases hy
  exact ⟨h1,h2⟩
 ·exact h j y (by omega) hy
theorem PO.full {xs:List ByteArray} {k:Nat} (h:PO xs k) (hk:xs.length≤k) (h0:0<xs.length):partsOk xs=true:=by
 cases xs with
 | nil=>cases h0
 | cons x r =>
  unfold partsOk
  rw [Bool.and_eq_true,List.all_eq_true]
  refine ⟨(h 0 x (by simp at hk;omega) rfl).2 rfl,fun y hy=>?_⟩
  obtain ⟨j,hj⟩:=List.getElem?_of_mem hy
  have hjl:=(List.getElem?_eq_some_iff.1 hj).1
  exact (h (j+1) y (by simp at hk;omega) (by simpa using hj)).1
theorem parts_bad {xs:List ByteArray} {k:Nat} {x:ByteArray} (hx:xs[k]? = some x) (h:partB x=false∨(k=0∧comp x.data.toList=false)):partsOk xs=false:=by
 cases xs with
 | nil=>rfl
 | cons y r =>
  unfold partsOk
  rw [Bool.and_eq_false_iff]
  rcases k with _|k
  ·simp at hx
   subst hx
   rcases h with h|h
   ·refine .inl ?_
    unfold partB at h
    cases hc:comp y.data.toList with
    | false=>rfl
    | true=>rw [hc] at h;simp at h
   ·exact .inl h.2
  ·rcases h with h|h
   ·refine .inr ?_
    rw [Bool.eq_false_iff]
    intro hh
    have hm:x∈r:=List.mem_of_getElem? (by simpa using hx)
    have:=List.all_eq_true.1 hh x hm
    rw [h] at this
    cases this
   ·omega
theorem check_short {xs:List ByteArray} {r:Bool} (h:xs.length=0∨(xs.length=1∧r=false)):checkP xs r=30:=by unfold checkP;rw [if_pos h]
theorem check_bad {xs:List ByteArray} {r:Bool} (h:partsOk xs=false):checkP xs r=30:=by
 unfold checkP
 rw [if_pos h]
 split<;>rfl
theorem check_good {xs:List ByteArray} {r:Bool} (h0:¬ (xs.length=0∨(xs.length=1∧r=false))) (h:partsOk xs=true):checkP xs r=if 12<xs.length then 31 else 0:=by
 unfold checkP
 rw [if_neg h0,if_neg (by rw [h];decide)]
theorem check_any (A:Option Addr) (c:Nat) (xs:List ByteArray) (r:Bool) (w:World) (h:RT w A c xs) (hsz:∀ x∈xs,x.size≤9223372036854775807) :
 Calls Tryz.prog 77 #[.agg #[.slice A xs.length c,.bool r]] w fun e w'=>e=.returned (.int .i64 (checkP xs r))∧Below w.heap.size w w':=by
 have h1:=h.1
 have h2:=h.2.1
 have HR:=Lib.hid h
 have HS:=Lib.hid hsz
 clear h hsz
 by_cases hs:xs.length=0∨(xs.length=1∧r=false)
 ·have HC:=Lib.hid (check_short hs)
  rcases hs with hs|⟨hs,hr⟩
  ·have hn0:((xs.length:Int)==0)=true:=by rw [hs];rfl
   clear hs
   go_enter Tryz.func77,Tryz.ntmps77
   go_wp2_with fail
   go_ret
   exact ⟨ret_int HC.out.symm,below_alloc _ _⟩
  ·subst hr
   have hn0:((xs.length:Int)==0)=false:=by rw [hs];rfl
   have hn1:((xs.length:Int)==1)=true:=by rw [hs];rfl
   clear hs
   go_enter Tryz.func77,Tryz.ntmps77
   go_wp2_with fail
   go_ret
   exact ⟨ret_int HC.out.symm,below_alloc _ _⟩
 ·have HG:=Lib.hid (fun (k:partsOk xs=true)=>check_good (r:=r) hs k)
  have hpos:0<xs.length:=by omega
  have hn0:((xs.length:Int)==0)=false:=by rw [beq_eq_false_iff_ne];omega
  have hcase:(((xs.length:Int)==1)=true∧r=true)∨((xs.length:Int)==1)=false:=by
   by_cases e:xs.length=1
   ·refine .inl ⟨by rw [e];rfl,?_⟩
    cases r with
    | true=>rfl
    | false=>exact absurd (.inr ⟨e,rfl⟩) hs
   ·exact .inr (by rw [beq_eq_false_iff_ne];omega)
  clear hs
  obtain ⟨b,o,rfl,hbl,hc⟩:=HR.out.2.2 hpos
  have HCE:=Lib.hid hc
  clear hc
  rcases hcase with ⟨hn1,rfl⟩|hn1 <;>
  ·go_enter Tryz.func77,Tryz.ntmps77
   go_wp2_with fail
   go_loopw [23] (fun i wr=>∃ k:Nat,k≤xs.length∧i=.int .i64 k∧Hid (PO xs k)∧Below w.heap.size w wr∧PB wr w.heap.size (some ⟨b,o,none⟩) xs.length c _) (fun i _=>xs.length-(intOf i).toNat)
   case atStart=>exact ⟨0,Nat.zero_le _,rfl,Lib.hid (PO.zero _),below_alloc _ _,PB.new _ _ _ _ _ _⟩
   case round =>
    obtain ⟨k,hk,rfl,HA,hbel,hpb⟩:=hrel
    have hp0:=hpb.1
    have hp1:=hpb.2.1
    by_cases hlt:k<xs.length
    ·obtain ⟨x,hx⟩:∃ x,xs[k]? = some x:=⟨_,List.getElem?_eq_getElem hlt⟩
     have hcell:wr.cell? ⟨b,o+k,none⟩=some (.string x):=(hbel.cell (p:=⟨b,o+k,none⟩) hbl).trans (HCE.out k x hx)
     have hxs:=HS.out x (List.mem_of_getElem? hx)
     have HX:=Lib.hid hx
     have HF0:=Lib.hid (form_zero x)
     have HF1:=Lib.hid (form_one x)
     clear hx
     rcases form_cases x with hf|hf|hf
     ·have hfB:(formB x==0)=true:=by rw [hf];rfl
      have HB:=Lib.hid (fun r'=>check_bad (r:=r') (parts_bad HX.out (.inl (HF0.out.1 hf))))
      clear hf
      go_wp2_with (go_at_call 114;refine (formOf_any _ _ (by omega)).mono ?_;rintro e w' ⟨rfl,rfl⟩)
      go_ret
      exact ⟨ret_int (HB.out _).symm,hbel⟩
     ·have hfB:(formB x==0)=false:=by rw [hf];rfl
      have hfB2:(formB x==2)=false:=by rw [hf];rfl
      have HP:Hid (partB x=true):=Lib.hid (by unfold partB;rw [HF1.out.1 hf,Bool.or_true])
      have HC1:=Lib.hid (HF1.out.1 hf)
      clear hf
      go_wp2_with (go_at_call 114;refine (formOf_any _ _ (by omega)).mono ?_;rintro e w' ⟨rfl,rfl⟩)
      go_roundw
      case rel=>exact ⟨k+1,by omega,by go_num,Lib.hid (HA.out.next HX.out HP.out (fun _=>HC1.out)),hbel,hpb⟩
      case measure=>simp [intOf];omega
     ·have hfB:(formB x==0)=false:=by rw [hf];rfl
      have hfB2:(formB x==2)=true:=by rw [hf];rfl
      have HP:Hid (partB x=true):=Lib.hid (by
       cases hp:partB x with
       | true=>rfl
       | false=>rw [HF0.out.2 hp] at hf;cases hf)
      have HC1:Hid (comp x.data.toList=false):=Lib.hid (by
       cases hp:comp x.data.toList with
       | false=>rfl
       | true=>rw [HF1.out.2 hp] at hf;cases hf)
      clear hf
      by_cases hk0:k=0
      ·have hkB:((k:Int)==0)=true:=by rw [hk0];rfl
       have HB:=Lib.hid (fun r'=>check_bad (r:=r') (parts_bad HX.out (.inr ⟨hk0,HC1.out⟩)))
       clear hk0
       go_wp2_with (go_at_call 114;refine (formOf_any _ _ (by omega)).mono ?_;rintro e w' ⟨rfl,rfl⟩)
       go_ret
       exact ⟨ret_int (HB.out _).symm,hbel⟩
      ·have hkB:((k:Int)==0)=false:=by rw [beq_eq_false_iff_ne];omega
       go_wp2_with (go_at_call 114;refine (formOf_any _ _ (by omega)).mono ?_;rintro e w' ⟨rfl,rfl⟩)
       go_roundw
       case rel=>exact ⟨k+1,by omega,by go_num,Lib.hid (HA.out.next HX.out HP.out (fun e=>absurd e hk0)),hbel,hpb⟩
       case measure=>simp [intOf];omega
    ·have HOK:=Lib.hid (HG.out (HA.out.full (by omega) hpos))
     by_cases h12:12<xs.length
     ·go_wp2_with fail
      go_ret
      exact ⟨ret_int (by rw [HOK.out,if_pos h12]),hbel⟩
     ·go_wp2_with fail
      go_ret
      exact ⟨ret_int (by rw [HOK.out,if_neg h12]),hbel⟩
open Go.RowKit
open Pm
theorem cutSuffix_any (s p:ByteArray) (w:World) (hs:s.size≤9223372036854775807) :
 Calls Tryz.prog 129 #[.string s,.string p] w fun e w'=>e=.returned (.tuple #[.string (mkB (Lib.trimSuffix s.data.toList p.data.toList)),.bool (Lib.hasSuffix s.data.toList p.data.toList)])∧w=w' :=
 (Tryz.strings_CutSuffix s p w hs).mono fun _ _ ⟨he,hw⟩=>⟨he,hw.symm⟩
theorem hasSuffix_any (s p:ByteArray) (w:World) (hs:s.size≤9223372036854775807) :
 Calls Tryz.prog 143 #[.string s,.string p] w fun e w'=>e=.returned (.bool (Lib.hasSuffix s.data.toList p.data.toList))∧w=w' :=
 (Tryz.strings_HasSuffix s p w hs).mono fun _ _ ⟨he,hw⟩=>⟨he,hw.symm⟩
theorem trimSuffix_any (s p:ByteArray) (w:World) (hs:s.size≤9223372036854775807) :
 Calls Tryz.prog 123 #[.string s,.string p] w fun e w'=>e=.returned (.string (mkB (Lib.trimSuffix s.data.toList p.data.toList)))∧w=w' :=
 (Tryz.strings_TrimSuffix s p w hs).mono fun _ _ ⟨he,hw⟩=>⟨he,hw.symm⟩
theorem sp_app (a b:List UInt8) (hb:(47:UInt8)∉b):sp (a++47::b)=sp a++[b]:=by
 induction a with
 | nil=>rw [List.nil_append,sp_slash,sp_last b hb];rfl
 | cons c a ih =>
  by_cases hc:c=47
  ·subst hc
   rw [List.cons_append,sp_slash,sp_slash,ih]
   rfl
  ·obtain ⟨x,xs,h1,h2⟩:=sp_cons c a hc
   obtain ⟨y,ys,h3,h4⟩:=sp_cons c (a++47::b) hc
   rw [List.cons_append,h4,h2]
   rw [ih,h1] at h3
   have:=List.cons.inj h3
   rw [←this.1,← this.2]
   rfl
theorem sp_split_last (l:List UInt8):(∃ b,(47:UInt8)∉b∧l=b∧sp l=[b])∨∃ a b,(47:UInt8)∉b∧l=a++47::b∧sp l=sp a++[b]:=by
 by_cases h:(47:UInt8)∈l
 ·refine .inr ?_
  have hr:(47:UInt8)∈l.reverse:=List.mem_reverse.2 h
  obtain ⟨a,b,hab,hna⟩:∃ a b,l.reverse=a++47::b∧(47:UInt8)∉a:=by
   generalize l.reverse=m at hr
   clear h
   induction m with
   | nil=>cases hr
   | cons c m ih =>
    by_cases e:c=47
    ·exact ⟨[],m,by simp [e],by simp⟩
    ·have:(47:UInt8)∈m:=by
      rcases List.mem_cons.1 hr with h|h
      ·exact absurd h.symm e
      ·exact h
     obtain ⟨a,b,rfl,hn⟩:=ih this
     exact ⟨c::a,b,rfl,fun h=>by
      rcases List.mem_cons.1 h with h|h
      ·exact e h.symm
      ·exact hn h⟩
  have hl:l=b.reverse++47::a.reverse:=by
   rw [←List.reverse_reverse l,hab]
   simp
  have hn2:(47:UInt8)∉a.reverse:=fun h=>hna (List.mem_reverse.1 h)
  exact ⟨b.reverse,a.reverse,hn2,hl,by rw [hl,sp_app _ _ hn2]⟩
 ·exact .inl ⟨l,h,rfl,sp_last l h⟩
def dots:List UInt8:=[46,46,46]
def bodyL (s:ByteArray):List UInt8:=s.data.toList.drop 2
def prestB (s:ByteArray):Bool:=Lib.hasSuffix (bodyL s) [47,46,46,46]
def ppartsB (s:ByteArray):List ByteArray:=spB (Lib.trimSuffix (bodyL s) [47,46,46,46])
def parseN (s:ByteArray):Int:=if Lib.hasPrefix s.data.toList [47,47]=true then checkP (ppartsB s) (prestB s) else 30
theorem dots_no:(47:UInt8)∉dots:=by decide
theorem suffix_of {a:List UInt8}:Lib.hasSuffix (a++47::dots) [47,46,46,46]=true∧Lib.trimSuffix (a++47::dots) [47,46,46,46]=a:=by
 have h:Lib.hasSuffix (a++47::dots) [47,46,46,46]=true:=by
  unfold Lib.hasSuffix
  rw [List.isSuffixOf_iff_suffix]
  exact ⟨a,rfl⟩
 refine ⟨h,?_⟩
 unfold Lib.trimSuffix
 rw [if_pos h]
 simp [dots]
theorem suffix_not {l a b:List UInt8} (hl:l=a++47::b) (hb:(47:UInt8)∉b) (hne:b≠dots):Lib.hasSuffix l [47,46,46,46]=false:=by
 rw [Bool.eq_false_iff]
 intro h
 unfold Lib.hasSuffix at h
 rw [List.isSuffixOf_iff_suffix] at h
 obtain ⟨c,hc⟩:=h
 have h1:sp l=sp a++[b]:=by rw [hl,sp_app _ _ hb]
 have h2:sp l=sp c++[dots]:=by rw [←hc];exact sp_app c dots dots_no
 rw [h1] at h2
 have:=List.append_inj_right' h2 rfl
 exact hne (List.cons.inj this).1
theorem suffix_none {l:List UInt8} (h:(47:UInt8)∉l):Lib.hasSuffix l [47,46,46,46]=false:=by
 rw [Bool.eq_false_iff]
 intro hh
 unfold Lib.hasSuffix at hh
 rw [List.isSuffixOf_iff_suffix] at hh
 obtain ⟨c,rfl⟩:=hh
 exact h (by simp)
def RetP (w:World) (xs:List ByteArray) (r:Bool) (n:Int) (e:Ending) (w':World):Prop :=
 ∃ A c,e=.returned (.tuple #[.agg #[.slice A xs.length c,.bool r],.int .i64 n])∧RT w' A c xs∧Below w.heap.size w w'
def PX (w:World) (g:Nat) (u v:Value):Prop :=
 w.cell? ⟨g,0,none⟩=some u∧w.cell? ⟨g,1,none⟩=some v∧w.frozen? ⟨g,0,none⟩=false∧w.frozen? ⟨g,1,none⟩=false∧g<w.heap.size
theorem PX.new (w:World) (u v:Value) (t:TypeId):PX (w.alloc (.cells #[u,v] t)) w.heap.size u v :=
 ⟨by simp [World.cell?_alloc_new],by simp [World.cell?_alloc_new],by rw [frozen?_alloc_cells];simp [World.frozen?],by rw [frozen?_alloc_cells];simp [World.frozen?],by simp⟩
theorem PX.below {w w':World} {g:Nat} {u v:Value} (h:PX w g u v) (hb:Below w.heap.size w w'):PX w' g u v :=
 ⟨(hb.cell (p:=⟨g,0,none⟩) h.2.2.2.2).trans h.1,(hb.cell (p:=⟨g,1,none⟩) h.2.2.2.2).trans h.2.1,(hb.frozen (p:=⟨g,0,none⟩) h.2.2.2.2).trans h.2.2.1,(hb.frozen (p:=⟨g,1,none⟩) h.2.2.2.2).trans h.2.2.2.1,Nat.lt_of_lt_of_le h.2.2.2.2 hb.size⟩
theorem RT.setCell {w:World} {A:Option Addr} {c:Nat} {xs:List ByteArray} {p:Addr} {v:Value} (h:RT w A c xs) (hp:w.cell? p=some v) (hv:∀ x,v≠.string x) (u:Value):RT (w.setCell p u) A c xs :=
 ⟨h.1,h.2.1,fun h0=>by
  obtain ⟨b,o,e,hlt,hc⟩:=h.2.2 h0
  refine ⟨b,o,e,by simpa [World.setCell] using hlt,fun j x hx=>?_⟩
  rw [World.cell?_setCell_other]
  ·exact hc j x hx
  ·rintro rfl
   rw [hc j x hx] at hp
   exact hv x (Option.some.inj hp).symm⟩
theorem RT.box {w:World} {A:Option Addr} {c g:Nat} {xs:List ByteArray} {u v:Value} (h:RT w A c xs) (hp:PX w g u v) (hu:∀ x,u≠.string x) (hv:∀ x,v≠.string x) (a b:Value) :
 RT ((w.setCell ⟨g,0,none⟩ a).setCell ⟨g,1,none⟩ b) A c xs :=
 (h.setCell hp.1 hu a).setCell ((World.cell?_setCell_other _ _ _ _ (by simp)).trans hp.2.1) hv b
theorem below_box {B g:Nat} {w w':World} (h:Below B w w') (hg:B≤g) (a b:Value):Below B w ((w'.setCell ⟨g,0,none⟩ a).setCell ⟨g,1,none⟩ b) :=
 (h.setCell (p:=⟨g,0,none⟩) hg a).setCell (p:=⟨g,1,none⟩) hg b
theorem slice_ns (A:Option Addr) (n c:Nat):∀ x,Value.slice A n c≠.string x:=fun _ h=>by cases h
theorem bool_ns (r:Bool):∀ x,Value.bool r≠.string x:=fun _ h=>by cases h
theorem below_alloc2 (w:World) (o p:Obj):Below w.heap.size w ((w.alloc o).alloc p):=(below_alloc w o).alloc (by simp) p
open Go.RowKit
open Pm
def mpCap (p x:ByteArray):ByteArray:=if stB p=true then mkB (Lib.trimSuffix x.data.toList (tlB p).data.toList) else ⟨#[]⟩
def mpOk (p x:ByteArray):Bool:=if stB p=true then Lib.hasSuffix x.data.toList (tlB p).data.toList&&!(Lib.trimSuffix x.data.toList (tlB p).data.toList).isEmpty else decide (p=x)
theorem text_eqB (x y:ByteArray):(x.toList==y.toList)=decide (x=y):=by
 rw [Bool.eq_iff_iff,beq_iff_eq,decide_eq_true_iff,Lib.toList_data,Lib.toList_data]
 exact ⟨fun e=>by rw [←mkB_back x,← mkB_back y,e],fun e=>by rw [e]⟩
theorem stB_pos {x:ByteArray} (h:stB x=true):0<x.size:=by
 apply Classical.byContradiction
 intro k
 rw [stB_nil (by omega)] at h
 cases h
theorem matchPart_any (p x:ByteArray) (w:World) (hx:x.size≤9223372036854775807) :
 Calls Tryz.prog 96 #[.string p,.string x] w fun e w'=>e=.returned (.tuple #[.string (mpCap p x),.bool (mpOk p x)])∧w=w':=by
 cases hst:stB p with
 | false =>
  have HC:Hid (mpCap p x=⟨#[]⟩):=Lib.hid (by unfold mpCap;rw [hst];rfl)
  have HO:Hid ((p.toList==x.toList)=mpOk p x):=Lib.hid (by unfold mpOk;rw [hst,text_eqB];rfl)
  go_enter Tryz.func96,Tryz.ntmps96
  go_wp2_with (go_at_call 97;refine (isStar_any _ _).mono ?_;rintro e w' ⟨rfl,rfl⟩)
  go_ret2
  exact ⟨ret_sb HC.out.symm HO.out,rfl⟩
 | true =>
  have hpos:=stB_pos hst
  have HC:Hid (mpCap p x=mkB (Lib.trimSuffix x.data.toList (tlB p).data.toList)):=Lib.hid (by unfold mpCap;rw [if_pos hst])
  have HO:Hid (mpOk p x=(Lib.hasSuffix x.data.toList (tlB p).data.toList&&!(mkB (Lib.trimSuffix x.data.toList (tlB p).data.toList)).toList.isEmpty)):=Lib.hid (by unfold mpOk;rw [if_pos hst,Lib.toList_data,mkB_data])
  have HCUT:Hid (Calls Tryz.prog 129 #[.string x,.string (p.extract 1 p.size)] w fun e w'=>e=.returned (.tuple #[.string (mkB (Lib.trimSuffix x.data.toList (tlB p).data.toList)),.bool (Lib.hasSuffix x.data.toList (tlB p).data.toList)])∧w=w'):=Lib.hid (cutSuffix_any x (tlB p) w hx)
  generalize mkB (Lib.trimSuffix x.data.toList (tlB p).data.toList)=t at *
  generalize Lib.hasSuffix x.data.toList (tlB p).data.toList=b at *
  cases b with
  | false =>
   go_enter Tryz.func96,Tryz.ntmps96
   go_wp2_with (first
    | (go_at_call 97;refine (isStar_any _ _).mono ?_;rintro e w' ⟨rfl,rfl⟩)
    | (go_at_call 129;refine HCUT.out.mono ?_;rintro e w' ⟨rfl,rfl⟩))
   go_ret2
   exact ⟨ret_sb HC.out.symm (by rw [HO.out];rfl),rfl⟩
  | true =>
   cases he:t.toList.isEmpty <;>
   ·go_enter Tryz.func96,Tryz.ntmps96
    go_wp2_with (first
     | (go_at_call 97;refine (isStar_any _ _).mono ?_;rintro e w' ⟨rfl,rfl⟩)
     | (go_at_call 129;refine HCUT.out.mono ?_;rintro e w' ⟨rfl,rfl⟩))
    go_ret2
    exact ⟨ret_sb HC.out.symm (by rw [HO.out,he];rfl),rfl⟩
theorem split_ret (s:ByteArray) (w:World) (hs:s.size≤1000000) (hm:ML w) :
 Calls Tryz.prog 95 #[.string s] w (RetC w (compsB s) (pathOk s.data.toList)):=by
 cases hv:pathOk s.data.toList with
 | true =>
  have HC:=Lib.hid (psplit_yes s w hs hm hv)
  clear hm
  go_enter Tryz.func95,Tryz.ntmps95
  go_wp2_with (go_at_call 64;refine HC.out.mono ?_;rintro e w1 ⟨A,c,rfl,hr,hb⟩)
  go_ret2
  exact ⟨fun _=>⟨_,_,rfl,hr,hb⟩,fun h=>by cases h⟩
 | false =>
  have HC:=Lib.hid (psplit_no s w hs hm hv)
  clear hm
  go_enter Tryz.func95,Tryz.ntmps95
  go_wp2_with (go_at_call 64;refine HC.out.mono ?_;rintro e w1 ⟨rfl,hb⟩)
  go_ret2
  exact ⟨fun h=>(by cases h),fun _=>⟨rfl,hb⟩⟩
def capsOf (st:ByteArray→Bool) (f:ByteArray→ByteArray→ByteArray) (zs:List (ByteArray×ByteArray)):List ByteArray:=(zs.filter (fun p=>st p.1)).map (fun p=>f p.1 p.2)
def okOf (g:ByteArray→ByteArray→Bool) (zs:List (ByteArray×ByteArray)):Bool:=zs.all (fun p=>g p.1 p.2)
theorem caps_step {st:ByteArray→Bool} {f:ByteArray→ByteArray→ByteArray} {zs:List (ByteArray×ByteArray)} {k:Nat} {z:ByteArray×ByteArray} (h:zs[k]? = some z) :
 capsOf st f (zs.take (k+1))=capsOf st f (zs.take k)++(if st z.1=true then [f z.1 z.2] else []):=by
 unfold capsOf
 rw [List.take_add_one,h,List.filter_append,List.map_append]
 refine congrArg _ ?_
 by_cases hz:st z.1=true
 ·rw [if_pos hz];simp [hz]
 ·rw [if_neg hz];simp [hz]
theorem ok_step {g:ByteArray→ByteArray→Bool} {zs:List (ByteArray×ByteArray)} {k:Nat} {z:ByteArray×ByteArray} (h:zs[k]? = some z) (h1:okOf g (zs.take k)=true) (h2:g z.1 z.2=true):okOf g (zs.take (k+1))=true:=by
 unfold okOf at h1 ⊢
 rw [List.take_add_one,h,List.all_append,h1]
 simp [h2]
theorem ok_miss {g:ByteArray→ByteArray→Bool} {zs:List (ByteArray×ByteArray)} {k:Nat} {z:ByteArray×ByteArray} (h:zs[k]? = some z) (h2:g z.1 z.2=false):okOf g zs=false:=by
 unfold okOf
 rw [Bool.eq_false_iff]
 intro hh
 have:=List.all_eq_true.1 hh z (List.mem_of_getElem? h)
 rw [h2] at this
 cases this
theorem zip_get {xs ys:List ByteArray} {k:Nat} {x y:ByteArray} (hx:xs[k]? = some x) (hy:ys[k]? = some y):(xs.zip ys)[k]? = some (x,y):=by
 rw [List.getElem?_zip_eq_some]
 exact ⟨hx,hy⟩
def lensOk (n m:Nat) (r:Bool):Bool:=!decide (m<n)&&(decide (n<m)==r)
def matchOk (g:ByteArray→ByteArray→Bool) (xs:List ByteArray) (r:Bool) (s:ByteArray):Bool :=
 pathOk s.data.toList&&(checkP xs r==0)&&lensOk xs.length (compsB s).length r&&okOf g (xs.zip (compsB s))
def restL (xs:List ByteArray) (r:Bool) (s:ByteArray):List ByteArray:=if r=true then [joinT ((compsB s).drop xs.length)] else []
def capsB (st:ByteArray→Bool) (f:ByteArray→ByteArray→ByteArray) (xs:List ByteArray) (r:Bool) (s:ByteArray):List ByteArray :=
 capsOf st f (xs.zip (compsB s))++restL xs r s
theorem RT.drop {w:World} {b o c:Nat} {xs:List ByteArray} (h:RT w (some ⟨b,o,none⟩) c xs) (k:Nat) (hk:k≤xs.length):RT w (some ⟨b,o+k,none⟩) (c-k) (xs.drop k):=by
 refine ⟨by rw [List.length_drop];have:=h.1;omega,by have:=h.2.1;omega,fun h0=>?_⟩
 rw [List.length_drop] at h0
 obtain ⟨b',o',e,hlt,hc⟩:=h.2.2 (by omega)
 cases e
 refine ⟨b,o+k,rfl,hlt,fun j x hx=>?_⟩
 rw [List.getElem?_drop] at hx
 rw [show o+k+j=o+(k+j) by omega]
 exact hc _ x hx
theorem OT.own {w:World} {base:Nat} {v:Value} {xs:List ByteArray} (h:OT w base v xs):∀ k,v.ownBlock=some k→base≤k:=by
 rcases h.2 with ⟨rfl,_⟩|⟨g,cap,cur,rfl,hbg,_⟩
 ·intro k hk
  simp [Value.ownBlock] at hk
 ·intro k hk
  simp [Value.ownBlock] at hk
  omega
theorem RT.one (w:World) (x:ByteArray) (t:TypeId):RT (w.alloc (.cells #[.string x] t)) (some ⟨w.heap.size,0,none⟩) 1 [x] :=
 ⟨Nat.le_refl _,by omega,fun _=>⟨w.heap.size,0,rfl,by simp,fun j y hy=>by
  rcases j with _|j
  ·simp at hy
   subst hy
   simp [World.cell?_alloc_new]
  ·simp at hy⟩⟩
theorem OT.below {w w':World} {base:Nat} {v:Value} {xs:List ByteArray} (h:OT w base v xs) (hb:Below w.heap.size w w'):OT w' base v xs:=by
 refine ⟨h.1,?_⟩
 rcases h.2 with ⟨rfl,hn⟩|⟨g,cap,cur,rfl,hbg,hh,hrest⟩
 ·exact .inl ⟨rfl,hn⟩
 ·refine .inr ⟨g,cap,cur,rfl,hbg,?_,hrest⟩
  rw [hb.block g ?_]
  ·exact hh
  ·rcases Nat.lt_or_ge g w.heap.size with h1|h1
   ·exact h1
   ·rw [Array.getElem?_eq_none h1] at hh;cases hh
theorem join_small {s:ByteArray} (hs:s.size≤5000) (k:Nat):(Lib.join (datj ((compsB s).drop k)) [47]).length≤100000000:=by
 have h1:∀ x∈(compsB s).drop k,x.size≤5000:=fun x hx=>by
  have:=compsB_size s x (List.mem_of_mem_drop hx)
  omega
 have h2:=join_le h1
 have h3:=compsB_len s
 have h4:((compsB s).drop k).length≤5001:=by rw [List.length_drop];omega
 have h5:((compsB s).drop k).length * (5000+1)≤5001 * (5000+1):=Nat.mul_le_mul_right _ h4
 omega
end Go.Proofs.YtelkmeiepliecaaGreatDoor
