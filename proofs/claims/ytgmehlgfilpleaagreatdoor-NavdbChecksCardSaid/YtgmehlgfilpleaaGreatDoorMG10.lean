/-
  Several texts as one.
-/
import Derived.Test.YtgmehlgfilpleaaGreatDoorMG05
import Derived.IntWalk
import Derived.Test.YtgmehlgfilpleaaGreatDoorMG02
import Derived.Deep.QuietTactic
import Derived.BigQuiet
namespace Go.Proofs.YtgmehlgfilpleaaGreatDoor
open Go.RowKit
set_option linter.unusedVariables false
set_option linter.unusedSimpArgs false

theorem take_snoc' (s:ByteArray) (k:Nat) (h:k<s.size):(bl s).take (k+1)=(bl s).take k++[s[k]]:=by
 rw[List.take_succ_eq_append_getElem (by rw[bl_len];exact h)];rfl
theorem digC_of {c:UInt8} (h1:(48:Int)≤(c.toNat:Int)) (h2:(c.toNat:Int)≤57):digC c=true:=by
 unfold digC;rw[decide_eq_true (by omega),decide_eq_true (by omega)];rfl
theorem digC_not {c:UInt8} (h:(c.toNat:Int)<48∨57<(c.toNat:Int)):digC c=false:=by
 unfold digC
 rcases h with h|h
 ·rw[decide_eq_false (p:=48≤c.toNat) (by omega)];rfl
 ·rw[decide_eq_false (p:=c.toNat≤57) (by omega),Bool.and_false]
theorem all_take_snoc {s:ByteArray} {k:Nat} (hk:k<s.size) (h:((bl s).take k).all digC=true) (hc:digC s[k]=true):((bl s).take (k+1)).all digC=true:=by
 rw[take_snoc' s k hk,List.all_append,h,List.all_cons,hc];rfl
theorem all_no {s:ByteArray} {k:Nat} (hk:k<s.size) (hc:digC s[k]=false):(bl s).all digC=false :=
 all_false_at (l:=bl s) (k:=k) (by rw[bl_len];exact hk) hc
def DigPost (s:ByteArray) (w:World) (e:Ending) (w':World):Prop:=e=.returned (.tuple #[.int .i64 (if (bl s).all digC then (numV (bl s):Int) else 0),.bool ((bl s).all digC)])∧w=w'
set_option maxRecDepth 100000 in
set_option maxHeartbeats 1000000 in
theorem number_any (s:ByteArray) (w:World) (hs:s.size≤9):Calls Tryz.prog 415 #[.string s] w (DigPost s w):=by
 have HNO:Hid ((bl s).all digC=false→DigPost s w (.returned (.tuple #[.int .i64 0,.bool false])) w):=by
  intro h;unfold DigPost;rw[h];exact⟨rfl,rfl⟩
 have HYES:Hid ((bl s).all digC=true→∀n:Nat,numV (bl s)=n→DigPost s w (.returned (.tuple #[.int .i64 (n:Int),.bool true])) w):=by
  intro h n hn;unfold DigPost;rw[h,hn];exact⟨rfl,rfl⟩
 go_enter Tryz.func415,Tryz.ntmps415
 go_wp2
 go_loop [4,8] (fun nv iv=>∃k n:Nat,k≤s.size∧iv=.int .i64 k∧nv=.int .i64 n∧Hid (numV ((bl s).take k)=n∧((bl s).take k).all digC=true)) (fun _ iv=>s.size-(intOf iv).toNat)
 case atStart=>exact⟨0,0,Nat.zero_le _,rfl,rfl,rfl,rfl⟩
 case round =>
  obtain⟨k,n,hk,rfl,rfl,hn⟩:=hrel
  by_cases hlt:k<s.size
  ·have hb:(n:Int)≤100000000:=by
    have h1:=numV_lt _ hn.out.2
    rw[hn.out.1,List.length_take,bl_len,Nat.min_eq_left hk] at h1
    have h2:10^k≤10^8:=Nat.pow_le_pow_right (by decide) (by omega)
    omega
   have hb0:(0:Int)≤(n:Int):=by omega
   have HST:Hid (numV ((bl s).take (k+1))=10*n+(s[k].toNat-48)):=by
    unfold Hid;rw[take_snoc' s k hlt,numV_snoc,hn.out.1]
   have hki:(k:Int)<(s.size:Int):=by omega
   rcases Int.lt_or_le (s[k].toNat:Int) 48 with h1|h1
   ·have HF:=Lib.hid (all_no hlt (digC_not (.inl h1)))
    go_wp2
    go_ret2
    exact HNO.out HF.out
   ·rcases Int.lt_or_le 57 (s[k].toNat:Int) with h2|h2
    ·have HF:=Lib.hid (all_no hlt (digC_not (.inr h2)))
     go_wp2
     go_ret2
     exact HNO.out HF.out
    ·have HT:=Lib.hid (all_take_snoc hlt hn.out.2 (digC_of h1 h2))
     have HC:Hid (10*(n:Int)+((s[k].toNat:Int)-48)=((10*n+(s[k].toNat-48):Nat):Int)):=by
      unfold Hid;omega
     go_wp2
     go_round
     case rel=>exact⟨k+1,_,hlt,by go_num,congrArg (Value.int .i64) HC.out,HST.out,HT.out⟩
     case measure=>simp[intOf];omega
  ·have HE:Hid ((bl s).take k=bl s):=List.take_of_length_le (by rw[bl_len];omega)
   go_wp2
   go_ret2
   exact HYES.out (by rw[←HE.out];exact hn.out.2) n (by rw[←HE.out];exact hn.out.1)

theorem number_yes (s:ByteArray) (n:Nat) (w:World) (hs:s.size≤9) (hd:(bl s).all digC=true) (hn:numV (bl s)=n):Calls Tryz.prog 415 #[.string s] w fun e w'=>e=.returned (.tuple #[.int .i64 (n:Int),.bool true])∧w=w' :=
 (number_any s w hs).mono fun e w' h=>by unfold DigPost at h;rw[hd,hn] at h;exact h
theorem number_no (s:ByteArray) (w:World) (hs:s.size≤9) (hd:(bl s).all digC=false):Calls Tryz.prog 415 #[.string s] w fun e w'=>e=.returned (.tuple #[.int .i64 0,.bool false])∧w=w' :=
 (number_any s w hs).mono fun e w' h=>by unfold DigPost at h;rw[hd] at h;exact h
theorem all_of_take {l:List UInt8} (k:Nat) (h:l.all digC=true):(l.take k).all digC=true:=by
 rw[List.all_eq_true] at *;exact fun x hx=>h x (List.mem_of_mem_take hx)
theorem all_of_drop {l:List UInt8} (k:Nat) (h:l.all digC=true):(l.drop k).all digC=true:=by
 rw[List.all_eq_true] at *;exact fun x hx=>h x (List.mem_of_mem_drop hx)
theorem numV_small {l:List UInt8} {k:Nat} (h:l.all digC=true) (hl:l.length≤k):numV l<10^k :=
 Nat.lt_of_lt_of_le (numV_lt l h) (Nat.pow_le_pow_right (by decide) hl)
def JoinPost (s:ByteArray) (c:Nat) (w:World) (e:Ending) (w':World):Prop:=e=.returned (.tuple #[.int .i64 (if joinB (bl s) c then (joinV (bl s) c:Int) else 0),.bool (joinB (bl s) c)])∧w=w'
set_option maxRecDepth 100000 in
set_option maxHeartbeats 2000000 in
theorem join_any (s:ByteArray) (c:Nat) (w:World) (hc:c≤3) (hs:s.size≤maxLen):Calls Tryz.prog 400 #[.string s,.int .i64 (c:Int)] w (JoinPost s c w):=by
 unfold maxLen at hs
 have HNO:Hid (joinB (bl s) c=false→JoinPost s c w (.returned (.tuple #[.int .i64 0,.bool false])) w):=by
  intro h;unfold JoinPost;rw[h];exact⟨rfl,rfl⟩
 have HYES:Hid (joinB (bl s) c=true→∀n:Int,(joinV (bl s) c:Int)=n→JoinPost s c w (.returned (.tuple #[.int .i64 n,.bool true])) w):=by
  intro h n hn;unfold JoinPost;rw[h,←hn];exact⟨rfl,rfl⟩
 by_cases hl:s.size=c+6
 ·have HLE:Hid ((bl s).length=c+6):=hl
  have hl1:(s.size:Int)=(c:Int)+6:=by omega
  have hz1:s.size≤9:=by omega
  have hz2:c+6≤s.size:=by omega
  have hne:((s.size:Int) != (c:Int)+6)=false:=bne_eq_false_iff_eq.2 hl1
  have hc0:(0:Int)≤(c:Int):=by omega
  have hc3:(c:Int)≤3:=by omega
  have hz3:(c:Int)+6≤(s.size:Int):=by omega
  clear hl hl1
  cases hd:(bl s).all digC with
  | false =>
   have HD:=Lib.hid hd
   have HJ:Hid (joinB (bl s) c=false):=by unfold Hid joinB;rw[hd];simp
   clear hd
   go_enter Tryz.func400,Tryz.ntmps400
   go_wp2_with fail
   refine(number_no s _ hz1 HD.out).mono ?_
   rintro e w' ⟨rfl,rfl⟩
   go_wp2
   go_ret2
   exact HNO.out HJ.out
  | true =>
   have HD:=Lib.hid hd
   clear hd
   obtain⟨n1,h1⟩:∃n,numV ((bl s).take c)=n:=⟨_,rfl⟩
   obtain⟨n2,h2⟩:∃n,numV (((bl s).drop c).take 2)=n:=⟨_,rfl⟩
   obtain⟨n3,h3⟩:∃n,numV (((bl s).drop (c+2)).take 2)=n:=⟨_,rfl⟩
   obtain⟨n4,h4⟩:∃n,numV ((bl s).drop (c+4))=n:=⟨_,rfl⟩
   have b1:n1<1000:=by
    rw[←h1];exact numV_small (k:=3) (all_of_take _ HD.out) (by rw[List.length_take];omega)
   have b2:n2<100:=by
    rw[←h2];exact numV_small (k:=2) (all_of_take _ (all_of_drop _ HD.out)) (by rw[List.length_take];omega)
   have b3:n3<100:=by
    rw[←h3];exact numV_small (k:=2) (all_of_take _ (all_of_drop _ HD.out)) (by rw[List.length_take];omega)
   have b4:n4<100:=by
    rw[←h4];exact numV_small (k:=2) (all_of_drop _ HD.out) (by rw[List.length_drop,HLE.out];omega)
   have HV:Hid ((joinV (bl s) c:Int)=(n1:Int)*360000+(n2:Int)*6000+(n3:Int)*100+(n4:Int)):=by
    unfold Hid joinV;rw[h1,h2,h3,h4];omega
   have HB:Hid (joinB (bl s) c=(decide (n2<60)&&decide (n3<60))):=by
    unfold Hid joinB;rw[HD.out,HLE.out,h2,h3];simp
   have i1:(n1:Int)<1000:=by omega
   have i2:(n2:Int)<100:=by omega
   have i3:(n3:Int)<100:=by omega
   have i4:(n4:Int)<100:=by omega
   have H1:=Lib.hid h1
   have H2:=Lib.hid h2
   have H3:=Lib.hid h3
   have H4:=Lib.hid h4
   clear h1 h2 h3 h4
   go_enter Tryz.func400,Tryz.ntmps400
   go_wp2_with fail
   refine(number_yes s _ _ hz1 HD.out rfl).mono ?_
   rintro e w' ⟨rfl,rfl⟩
   go_wp2_with fail
   refine(number_yes _ n1 _ (by rw[ByteArray.size_extract];omega) (by rw[bl_extract];exact all_of_take _ (all_of_drop _ HD.out)) (by rw[bl_extract];first|exact H1.out|(rw[List.drop_zero];exact H1.out))).mono ?_
   rintro e w' ⟨rfl,rfl⟩
   go_wp2_with fail
   refine(number_yes _ n2 _ (by rw[ByteArray.size_extract];omega) (by rw[bl_extract];exact all_of_take _ (all_of_drop _ HD.out)) (by rw[bl_extract,show c+2-c=2 by omega];exact H2.out)).mono ?_
   rintro e w' ⟨rfl,rfl⟩
   go_wp2_with fail
   refine(number_yes _ n3 _ (by rw[ByteArray.size_extract];omega) (by rw[bl_extract];exact all_of_take _ (all_of_drop _ HD.out)) (by rw[bl_extract,show c+4-(c+2)=2 by omega];exact H3.out)).mono ?_
   rintro e w' ⟨rfl,rfl⟩
   go_wp2_with fail
   refine(number_yes _ n4 _ (by rw[ByteArray.size_extract];omega) (by rw[bl_extract];exact all_of_take _ (all_of_drop _ HD.out)) (by rw[bl_extract,List.take_of_length_le (by rw[List.length_drop,bl_len];omega)];exact H4.out)).mono ?_
   rintro e w' ⟨rfl,rfl⟩
   rcases Nat.lt_or_ge n2 60 with k2|k2
   ·have k2':(n2:Int)<60:=by omega
    rcases Nat.lt_or_ge n3 60 with k3|k3
    ·have k3':(n3:Int)<60:=by omega
     have HJ:Hid (joinB (bl s) c=true):=by unfold Hid;rw[HB.out,decide_eq_true k2,decide_eq_true k3];rfl
     go_wp2
     go_ret2
     exact HYES.out HJ.out _ HV.out
    ·have k3':(60:Int)≤(n3:Int):=by omega
     have HJ:Hid (joinB (bl s) c=false):=by unfold Hid;rw[HB.out,decide_eq_false (p:=n3<60) (by omega),Bool.and_false]
     go_wp2
     go_ret2
     exact HNO.out HJ.out
   ·have k2':(60:Int)≤(n2:Int):=by omega
    have HJ:Hid (joinB (bl s) c=false):=by unfold Hid;rw[HB.out,decide_eq_false (p:=n2<60) (by omega),Bool.false_and]
    go_wp2
    go_ret2
    exact HNO.out HJ.out
 ·have HJ:Hid (joinB (bl s) c=false):=by
   unfold Hid joinB;rw[decide_eq_false (p:=(bl s).length=c+6) (by rw[bl_len];exact hl)];rfl
  have hne:((s.size:Int) != (c:Int)+6)=true:=bne_iff_ne.2 (by omega)
  have hc0:(0:Int)≤(c:Int):=by omega
  have hc3:(c:Int)≤3:=by omega
  clear hl
  go_enter Tryz.func400,Tryz.ntmps400
  go_wp2
  go_ret2
  exact HNO.out HJ.out

theorem joinV_lt {l:List UInt8} {c:Nat} (hc:c≤3) (h:joinB l c=true):joinV l c≤400000000:=by
 unfold joinB at h
 simp only[Bool.and_eq_true,decide_eq_true_iff] at h
 obtain⟨⟨⟨h1,h2⟩,h3⟩,h4⟩:=h
 have b1:numV (l.take c)<10^3:=numV_small (all_of_take _ h2) (by rw[List.length_take];omega)
 have b4:numV (l.drop (c+4))<10^2:=numV_small (all_of_drop _ h2) (by rw[List.length_drop];omega)
 unfold joinV
 omega
def SgnPost (l:List UInt8) (p m:UInt8) (c:Nat) (w:World) (e:Ending) (w':World):Prop:=e=.returned (.tuple #[.int .i64 (if sgnB l p m c then sgnV l m c else 0),.bool (sgnB l p m c)])∧Drawn w w'
theorem u8_ne {a b:UInt8} (h:a≠b):((a.toNat:Int) != (b.toNat:Int))=true∧((a.toNat:Int) == (b.toNat:Int))=false:=by
 have h2:¬(a.toNat:Int)=(b.toNat:Int):=fun e=>h (UInt8.toNat_inj.1 (by omega))
 exact⟨bne_iff_ne.2 h2,beq_eq_false_iff_ne.2 h2⟩
theorem u8_same {a b:UInt8} (h:a=b):((a.toNat:Int) != (b.toNat:Int))=false∧((a.toNat:Int) == (b.toNat:Int))=true:=by
 subst h;exact⟨by simp,by simp⟩
theorem bl_cons {s:ByteArray} (h:0<s.size):bl s=s[0]::(bl s).drop 1:=by
 have:=List.drop_eq_getElem_cons (l:=bl s) (i:=0) (by rw[bl_len];exact h)
 rw[List.drop_zero] at this
 exact this
set_option maxRecDepth 100000 in
set_option maxHeartbeats 2000000 in
theorem parse_any (s:ByteArray) (p m:UInt8) (c:Nat) (w:World) (hc:c≤3) (hs:s.size≤maxLen):Calls Tryz.prog 394 #[.string s,.int .u8 (p.toNat:Int),.int .u8 (m.toNat:Int),.int .i64 (c:Int)] w (SgnPost (bl s) p m c w):=by
 unfold maxLen at hs
 have HNO:Hid (sgnB (bl s) p m c=false→SgnPost (bl s) p m c w (.returned (.tuple #[.int .i64 0,.bool false])) w):=by
  intro h;unfold SgnPost;rw[h];exact⟨rfl,Drawn.refl _⟩
 have HYES:Hid (sgnB (bl s) p m c=true→∀n:Int,sgnV (bl s) m c=n→SgnPost (bl s) p m c w (.returned (.tuple #[.int .i64 n,.bool true])) w):=by
  intro h n hn;unfold SgnPost;rw[h,←hn];exact⟨rfl,Drawn.refl _⟩
 have hc0:(0:Int)≤(c:Int):=by omega
 have hc3:(c:Int)≤3:=by omega
 by_cases hl:s.size=c+7
 ·have hne:((s.size:Int) != (c:Int)+7)=false:=bne_eq_false_iff_eq.2 (by omega)
  have hz:0<s.size:=by omega
  have hz1:(0:Int)<(s.size:Int):=by omega
  have hz2:(1:Int)≤(s.size:Int):=by omega
  have hz3:1≤s.size:=by omega
  have HB:Hid (sgnB (bl s) p m c=((s[0] == p || s[0] == m)&&joinB ((bl s).drop 1) c && !(s[0] == m&&decide (joinV ((bl s).drop 1) c=0)))):=by
   unfold Hid sgnB
   rw[bl_len,hl,decide_eq_true rfl]
   rw[bl_cons hz]
   simp
  have HV:Hid (sgnV (bl s) m c=if s[0] == m then -(joinV ((bl s).drop 1) c:Int) else (joinV ((bl s).drop 1) c:Int)):=by
   unfold Hid sgnV
   rw[bl_cons hz]
   simp
  have HJ:Hid (bl (s.extract 1 s.size)=(bl s).drop 1):=by
   unfold Hid;rw[bl_extract,List.take_of_length_le (by rw[List.length_drop,bl_len];omega)]
  have hle:s.size≤10:=by omega
  clear hl
  by_cases h1:s[0]=p∨s[0]=m
  ·have HOK:Hid ((s[0] == p || s[0] == m)=true):=by unfold Hid;rcases h1 with h|h <;> rw[h] <;> simp
   have h2:((s[0].toNat:Int) != (p.toNat:Int))=false∨(((s[0].toNat:Int) != (p.toNat:Int))=true∧((s[0].toNat:Int) != (m.toNat:Int))=false):=by
    by_cases h3:s[0]=p
    ·exact .inl (u8_same h3).1
    ·exact .inr ⟨(u8_ne h3).1,(u8_same (h1.resolve_left h3)).1⟩
   have h4:(Hid (s[0]=m)∧((s[0].toNat:Int) == (m.toNat:Int))=true)∨(Hid (s[0]≠m)∧((s[0].toNat:Int) == (m.toNat:Int))=false):=by
    by_cases h3:s[0]=m
    ·exact .inl ⟨h3,(u8_same h3).2⟩
    ·exact .inr ⟨h3,(u8_ne h3).2⟩
   clear h1
   rcases h2 with t1|⟨t1,t2⟩
   all_goals
    go_enter Tryz.func394,Tryz.ntmps394
    go_wp2_with fail
    refine(join_any _ c _ hc (by rw[ByteArray.size_extract];unfold maxLen;omega)).mono ?_
    rintro e w' ⟨rfl,rfl⟩
    rw[HJ.out]
    cases hj:joinB ((bl s).drop 1) c with
    | false =>
     have HZ:Hid (sgnB (bl s) p m c=false):=by unfold Hid;rw[HB.out,hj];simp
     clear hj
     simp only[Bool.false_eq_true,if_false]
     go_wp2
     go_ret2
     exact HNO.out HZ.out
    | true =>
     have hjv:=joinV_lt hc hj
     have HJT:=Lib.hid hj
     clear hj
     obtain⟨jv,hjve⟩:∃jv,joinV ((bl s).drop 1) c=jv:=⟨_,rfl⟩
     rw[hjve] at hjv HB HV ⊢
     clear hjve
     simp only[if_true]
     have g0:(0:Int)≤(jv:Int):=by omega
     have g1:(jv:Int)≤400000000:=by omega
     rcases h4 with ⟨h5,h6⟩|⟨h5,h6⟩
     ·have HV2:Hid (sgnV (bl s) m c = -(jv:Int)):=by unfold Hid;rw[HV.out,h5.out];simp
      by_cases hj0:jv=0
      ·have HZ:Hid (sgnB (bl s) p m c=false):=by unfold Hid;rw[HB.out,h5.out,hj0];simp
       have e0:((jv:Int) == 0)=true:=beq_iff_eq.2 (by omega)
       clear hj0
       go_wp2
       go_ret2
       exact HNO.out HZ.out
      ·have HZ:Hid (sgnB (bl s) p m c=true):=by unfold Hid;rw[HB.out,HOK.out,HJT.out,decide_eq_false hj0];simp
       have e0:((jv:Int) == 0)=false:=beq_eq_false_iff_ne.2 (by omega)
       clear hj0
       go_wp2
       go_ret2
       exact HYES.out HZ.out _ HV2.out
     ·have HV2:Hid (sgnV (bl s) m c=(jv:Int)):=by unfold Hid;rw[HV.out,if_neg (by simpa using h5.out)]
      have HZ:Hid (sgnB (bl s) p m c=true):=by unfold Hid;rw[HB.out,HOK.out,HJT.out,beq_eq_false_iff_ne.2 h5.out];simp
      go_wp2
      go_ret2
      exact HYES.out HZ.out _ HV2.out
  ·have HZ:Hid (sgnB (bl s) p m c=false):=by
    unfold Hid
    rw[HB.out,beq_eq_false_iff_ne.2 (fun h=>h1 (.inl h)),beq_eq_false_iff_ne.2 (fun h=>h1 (.inr h))];simp
   have t1:((s[0].toNat:Int) != (p.toNat:Int))=true:=(u8_ne (fun h=>h1 (.inl h))).1
   have t2:((s[0].toNat:Int) != (m.toNat:Int))=true:=(u8_ne (fun h=>h1 (.inr h))).1
   clear h1
   go_enter Tryz.func394,Tryz.ntmps394
   go_wp2
   go_ret2
   exact HNO.out HZ.out
 ·have HJ:Hid (sgnB (bl s) p m c=false):=by
   unfold Hid sgnB;rw[decide_eq_false (p:=(bl s).length=c+7) (by rw[bl_len];exact hl)];rfl
  have hne:((s.size:Int) != (c:Int)+7)=true:=bne_iff_ne.2 (by omega)
  clear hl
  go_enter Tryz.func394,Tryz.ntmps394
  go_wp2
  go_ret2
  exact HNO.out HJ.out

end Go.Proofs.YtgmehlgfilpleaaGreatDoor
