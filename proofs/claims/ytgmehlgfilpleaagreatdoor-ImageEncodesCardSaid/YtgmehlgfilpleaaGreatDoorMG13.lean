/-
  Several texts as one.
-/
import Derived.Test.YtgmehlgfilpleaaGreatDoorMG10
import Derived.Test.YtgmehlgfilpleaaGreatDoorMG04
import Derived.Test.YtgmehlgfilpleaaGreatDoorMG01
import Derived.Deep.QuietTactic
import Derived.BigQuiet
namespace Go.Proofs.YtgmehlgfilpleaaGreatDoor
open Go.RowKit
set_option linter.unusedVariables false
set_option linter.unusedSimpArgs false


theorem number_yes (s:ByteArray) (n:Nat) (w:World) (hs:s.size≤9) (hd:(bl s).all digC=true) (hn:numV (bl s)=n):Calls Tryz.prog 415 #[.string s] w fun e w'=>e=.returned (.tuple #[.int .i64 (n:Int),.bool true])∧w=w' :=
 (number_any s w hs).mono fun e w' h=>by unfold DigPost at h;rw[hd,hn] at h;exact h
theorem number_no (s:ByteArray) (w:World) (hs:s.size≤9) (hd:(bl s).all digC=false):Calls Tryz.prog 415 #[.string s] w fun e w'=>e=.returned (.tuple #[.int .i64 0,.bool false])∧w=w' :=
 (number_any s w hs).mono fun e w' h=>by unfold DigPost at h;rw[hd] at h;exact h
theorem all_of_take {l:List UInt8} (k:Nat) (h:l.all digC=true):(l.take k).all digC=true:=by
 rw[List.all_eq_true] at *;exact fun x hx=>h x (List.mem_of_mem_take hx)
theorem all_of_drop {l:List UInt8} (k:Nat) (h:l.all digC=true):(l.drop k).all digC=true:=by
 rw[List.all_eq_true] at *;exact fun x hx=>h x (List.mem_of_mem_drop hx)
theorem numV_small {l:List UInt8} {k:Nat} (h:l.all digC=true) (hl:l.length≤k):numV l<10^k :=
 Nat.lt_of_lt_of_le (numV_lt l h) (Nat.pow_le_pow_right (by decide) hl)
def JoinPost (s:ByteArray) (c:Nat) (w:World) (e:Ending) (w':World):Prop:=e=.returned (.tuple #[.int .i64 (if joinB (bl s) c then (joinV (bl s) c:Int) else 0),.bool (joinB (bl s) c)])∧w=w'
set_option maxRecDepth 100000 in
set_option maxHeartbeats 2000000 in
theorem join_any (s:ByteArray) (c:Nat) (w:World) (hc:c≤3) (hs:s.size≤maxLen):Calls Tryz.prog 400 #[.string s,.int .i64 (c:Int)] w (JoinPost s c w):=by
 unfold maxLen at hs
 have HNO:Hid (joinB (bl s) c=false→JoinPost s c w (.returned (.tuple #[.int .i64 0,.bool false])) w):=by
  intro h;unfold JoinPost;rw[h];exact⟨rfl,rfl⟩
 have HYES:Hid (joinB (bl s) c=true→∀n:Int,(joinV (bl s) c:Int)=n→JoinPost s c w (.returned (.tuple #[.int .i64 n,.bool true])) w):=by
  intro h n hn;unfold JoinPost;rw[h,←hn];exact⟨rfl,rfl⟩
 by_cases hl:s.size=c+6
 ·have HLE:Hid ((bl s).length=c+6):=hl
  have hl1:(s.size:Int)=(c:Int)+6:=by omega
  have hz1:s.size≤9:=by omega
  have hz2:c+6≤s.size:=by omega
  have hne:((s.size:Int) != (c:Int)+6)=false:=bne_eq_false_iff_eq.2 hl1
  have hc0:(0:Int)≤(c:Int):=by omega
  have hc3:(c:Int)≤3:=by omega
  have hz3:(c:Int)+6≤(s.size:Int):=by omega
  clear hl hl1
  cases hd:(bl s).all digC with
  | false =>
   have HD:=Lib.hid hd
   have HJ:Hid (joinB (bl s) c=false):=by unfold Hid joinB;rw[hd];simp
   clear hd
   go_enter Tryz.func400,Tryz.ntmps400
   go_wp2_with fail
   refine(number_no s _ hz1 HD.out).mono ?_
   rintro e w' ⟨rfl,rfl⟩
   go_wp2
   go_ret2
   exact HNO.out HJ.out
  | true =>
   have HD:=Lib.hid hd
   clear hd
   obtain⟨n1,h1⟩:∃n,numV ((bl s).take c)=n:=⟨_,rfl⟩
   obtain⟨n2,h2⟩:∃n,numV (((bl s).drop c).take 2)=n:=⟨_,rfl⟩
   obtain⟨n3,h3⟩:∃n,numV (((bl s).drop (c+2)).take 2)=n:=⟨_,rfl⟩
   obtain⟨n4,h4⟩:∃n,numV ((bl s).drop (c+4))=n:=⟨_,rfl⟩
   have b1:n1<1000:=by
    rw[←h1];exact numV_small (k:=3) (all_of_take _ HD.out) (by rw[List.length_take];omega)
   have b2:n2<100:=by
    rw[←h2];exact numV_small (k:=2) (all_of_take _ (all_of_drop _ HD.out)) (by rw[List.length_take];omega)
   have b3:n3<100:=by
    rw[←h3];exact numV_small (k:=2) (all_of_take _ (all_of_drop _ HD.out)) (by rw[List.length_take];omega)
   have b4:n4<100:=by
    rw[←h4];exact numV_small (k:=2) (all_of_drop _ HD.out) (by rw[List.length_drop,HLE.out];omega)
   have HV:Hid ((joinV (bl s) c:Int)=(n1:Int)*360000+(n2:Int)*6000+(n3:Int)*100+(n4:Int)):=by
    unfold Hid joinV;rw[h1,h2,h3,h4];omega
   have HB:Hid (joinB (bl s) c=(decide (n2<60)&&decide (n3<60))):=by
    unfold Hid joinB;rw[HD.out,HLE.out,h2,h3];simp
   have i1:(n1:Int)<1000:=by omega
   have i2:(n2:Int)<100:=by omega
   have i3:(n3:Int)<100:=by omega
   have i4:(n4:Int)<100:=by omega
   have H1:=Lib.hid h1
   have H2:=Lib.hid h2
   have H3:=Lib.hid h3
   have H4:=Lib.hid h4
   clear h1 h2 h3 h4
   go_enter Tryz.func400,Tryz.ntmps400
   go_wp2_with fail
   refine(number_yes s _ _ hz1 HD.out rfl).mono ?_
   rintro e w' ⟨rfl,rfl⟩
   go_wp2_with fail
   refine(number_yes _ n1 _ (by rw[ByteArray.size_extract];omega) (by rw[bl_extract];exact all_of_take _ (all_of_drop _ HD.out)) (by rw[bl_extract];first|exact H1.out|(rw[List.drop_zero];exact H1.out))).mono ?_
   rintro e w' ⟨rfl,rfl⟩
   go_wp2_with fail
   refine(number_yes _ n2 _ (by rw[ByteArray.size_extract];omega) (by rw[bl_extract];exact all_of_take _ (all_of_drop _ HD.out)) (by rw[bl_extract,show c+2-c=2 by omega];exact H2.out)).mono ?_
   rintro e w' ⟨rfl,rfl⟩
   go_wp2_with fail
   refine(number_yes _ n3 _ (by rw[ByteArray.size_extract];omega) (by rw[bl_extract];exact all_of_take _ (all_of_drop _ HD.out)) (by rw[bl_extract,show c+4-(c+2)=2 by omega];exact H3.out)).mono ?_
   rintro e w' ⟨rfl,rfl⟩
   go_wp2_with fail
   refine(number_yes _ n4 _ (by rw[ByteArray.size_extract];omega) (by rw[bl_extract];exact all_of_take _ (all_of_drop _ HD.out)) (by rw[bl_extract,List.take_of_length_le (by rw[List.length_drop,bl_len];omega)];exact H4.out)).mono ?_
   rintro e w' ⟨rfl,rfl⟩
   rcases Nat.lt_or_ge n2 60 with k2|k2
   ·have k2':(n2:Int)<60:=by omega
    rcases Nat.lt_or_ge n3 60 with k3|k3
    ·have k3':(n3:Int)<60:=by omega
     have HJ:Hid (joinB (bl s) c=true):=by unfold Hid;rw[HB.out,decide_eq_true k2,decide_eq_true k3];rfl
     go_wp2
     go_ret2
     exact HYES.out HJ.out _ HV.out
    ·have k3':(60:Int)≤(n3:Int):=by omega
     have HJ:Hid (joinB (bl s) c=false):=by unfold Hid;rw[HB.out,decide_eq_false (p:=n3<60) (by omega),Bool.and_false]
     go_wp2
     go_ret2
     exact HNO.out HJ.out
   ·have k2':(60:Int)≤(n2:Int):=by omega
    have HJ:Hid (joinB (bl s) c=false):=by unfold Hid;rw[HB.out,decide_eq_false (p:=n2<60) (by omega),Bool.false_and]
    go_wp2
    go_ret2
    exact HNO.out HJ.out
 ·have HJ:Hid (joinB (bl s) c=false):=by
   unfold Hid joinB;rw[decide_eq_false (p:=(bl s).length=c+6) (by rw[bl_len];exact hl)];rfl
  have hne:((s.size:Int) != (c:Int)+6)=true:=bne_iff_ne.2 (by omega)
  have hc0:(0:Int)≤(c:Int):=by omega
  have hc3:(c:Int)≤3:=by omega
  clear hl
  go_enter Tryz.func400,Tryz.ntmps400
  go_wp2
  go_ret2
  exact HNO.out HJ.out

theorem joinV_lt {l:List UInt8} {c:Nat} (hc:c≤3) (h:joinB l c=true):joinV l c≤400000000:=by
 unfold joinB at h
 simp only[Bool.and_eq_true,decide_eq_true_iff] at h
 obtain⟨⟨⟨h1,h2⟩,h3⟩,h4⟩:=h
 have b1:numV (l.take c)<10^3:=numV_small (all_of_take _ h2) (by rw[List.length_take];omega)
 have b4:numV (l.drop (c+4))<10^2:=numV_small (all_of_drop _ h2) (by rw[List.length_drop];omega)
 unfold joinV
 omega
def SgnPost (l:List UInt8) (p m:UInt8) (c:Nat) (w:World) (e:Ending) (w':World):Prop:=e=.returned (.tuple #[.int .i64 (if sgnB l p m c then sgnV l m c else 0),.bool (sgnB l p m c)])∧Drawn w w'
theorem u8_ne {a b:UInt8} (h:a≠b):((a.toNat:Int) != (b.toNat:Int))=true∧((a.toNat:Int) == (b.toNat:Int))=false:=by
 have h2:¬(a.toNat:Int)=(b.toNat:Int):=fun e=>h (UInt8.toNat_inj.1 (by omega))
 exact⟨bne_iff_ne.2 h2,beq_eq_false_iff_ne.2 h2⟩
theorem u8_same {a b:UInt8} (h:a=b):((a.toNat:Int) != (b.toNat:Int))=false∧((a.toNat:Int) == (b.toNat:Int))=true:=by
 subst h;exact⟨by simp,by simp⟩
theorem bl_cons {s:ByteArray} (h:0<s.size):bl s=s[0]::(bl s).drop 1:=by
 have:=List.drop_eq_getElem_cons (l:=bl s) (i:=0) (by rw[bl_len];exact h)
 rw[List.drop_zero] at this
 exact this
set_option maxRecDepth 100000 in
set_option maxHeartbeats 2000000 in
theorem parse_any (s:ByteArray) (p m:UInt8) (c:Nat) (w:World) (hc:c≤3) (hs:s.size≤maxLen):Calls Tryz.prog 394 #[.string s,.int .u8 (p.toNat:Int),.int .u8 (m.toNat:Int),.int .i64 (c:Int)] w (SgnPost (bl s) p m c w):=by
 unfold maxLen at hs
 have HNO:Hid (sgnB (bl s) p m c=false→SgnPost (bl s) p m c w (.returned (.tuple #[.int .i64 0,.bool false])) w):=by
  intro h;unfold SgnPost;rw[h];exact⟨rfl,Drawn.refl _⟩
 have HYES:Hid (sgnB (bl s) p m c=true→∀n:Int,sgnV (bl s) m c=n→SgnPost (bl s) p m c w (.returned (.tuple #[.int .i64 n,.bool true])) w):=by
  intro h n hn;unfold SgnPost;rw[h,←hn];exact⟨rfl,Drawn.refl _⟩
 have hc0:(0:Int)≤(c:Int):=by omega
 have hc3:(c:Int)≤3:=by omega
 by_cases hl:s.size=c+7
 ·have hne:((s.size:Int) != (c:Int)+7)=false:=bne_eq_false_iff_eq.2 (by omega)
  have hz:0<s.size:=by omega
  have hz1:(0:Int)<(s.size:Int):=by omega
  have hz2:(1:Int)≤(s.size:Int):=by omega
  have hz3:1≤s.size:=by omega
  have HB:Hid (sgnB (bl s) p m c=((s[0] == p || s[0] == m)&&joinB ((bl s).drop 1) c && !(s[0] == m&&decide (joinV ((bl s).drop 1) c=0)))):=by
   unfold Hid sgnB
   rw[bl_len,hl,decide_eq_true rfl]
   rw[bl_cons hz]
   simp
  have HV:Hid (sgnV (bl s) m c=if s[0] == m then -(joinV ((bl s).drop 1) c:Int) else (joinV ((bl s).drop 1) c:Int)):=by
   unfold Hid sgnV
   rw[bl_cons hz]
   simp
  have HJ:Hid (bl (s.extract 1 s.size)=(bl s).drop 1):=by
   unfold Hid;rw[bl_extract,List.take_of_length_le (by rw[List.length_drop,bl_len];omega)]
  have hle:s.size≤10:=by omega
  clear hl
  by_cases h1:s[0]=p∨s[0]=m
  ·have HOK:Hid ((s[0] == p || s[0] == m)=true):=by unfold Hid;rcases h1 with h|h <;> rw[h] <;> simp
   have h2:((s[0].toNat:Int) != (p.toNat:Int))=false∨(((s[0].toNat:Int) != (p.toNat:Int))=true∧((s[0].toNat:Int) != (m.toNat:Int))=false):=by
    by_cases h3:s[0]=p
    ·exact .inl (u8_same h3).1
    ·exact .inr ⟨(u8_ne h3).1,(u8_same (h1.resolve_left h3)).1⟩
   have h4:(Hid (s[0]=m)∧((s[0].toNat:Int) == (m.toNat:Int))=true)∨(Hid (s[0]≠m)∧((s[0].toNat:Int) == (m.toNat:Int))=false):=by
    by_cases h3:s[0]=m
    ·exact .inl ⟨h3,(u8_same h3).2⟩
    ·exact .inr ⟨h3,(u8_ne h3).2⟩
   clear h1
   rcases h2 with t1|⟨t1,t2⟩
   all_goals
    go_enter Tryz.func394,Tryz.ntmps394
    go_wp2_with fail
    refine(join_any _ c _ hc (by rw[ByteArray.size_extract];unfold maxLen;omega)).mono ?_
    rintro e w' ⟨rfl,rfl⟩
    rw[HJ.out]
    cases hj:joinB ((bl s).drop 1) c with
    | false =>
     have HZ:Hid (sgnB (bl s) p m c=false):=by unfold Hid;rw[HB.out,hj];simp
     clear hj
     simp only[Bool.false_eq_true,if_false]
     go_wp2
     go_ret2
     exact HNO.out HZ.out
    | true =>
     have hjv:=joinV_lt hc hj
     have HJT:=Lib.hid hj
     clear hj
     obtain⟨jv,hjve⟩:∃jv,joinV ((bl s).drop 1) c=jv:=⟨_,rfl⟩
     rw[hjve] at hjv HB HV ⊢
     clear hjve
     simp only[if_true]
     have g0:(0:Int)≤(jv:Int):=by omega
     have g1:(jv:Int)≤400000000:=by omega
     rcases h4 with ⟨h5,h6⟩|⟨h5,h6⟩
     ·have HV2:Hid (sgnV (bl s) m c = -(jv:Int)):=by unfold Hid;rw[HV.out,h5.out];simp
      by_cases hj0:jv=0
      ·have HZ:Hid (sgnB (bl s) p m c=false):=by unfold Hid;rw[HB.out,h5.out,hj0];simp
       have e0:((jv:Int) == 0)=true:=beq_iff_eq.2 (by omega)
       clear hj0
       go_wp2
       go_ret2
       exact HNO.out HZ.out
      ·have HZ:Hid (sgnB (bl s) p m c=true):=by unfold Hid;rw[HB.out,HOK.out,HJT.out,decide_eq_false hj0];simp
       have e0:((jv:Int) == 0)=false:=beq_eq_false_iff_ne.2 (by omega)
       clear hj0
       go_wp2
       go_ret2
       exact HYES.out HZ.out _ HV2.out
     ·have HV2:Hid (sgnV (bl s) m c=(jv:Int)):=by unfold Hid;rw[HV.out,if_neg (by simpa using h5.out)]
      have HZ:Hid (sgnB (bl s) p m c=true):=by unfold Hid;rw[HB.out,HOK.out,HJT.out,beq_eq_false_iff_ne.2 h5.out];simp
      go_wp2
      go_ret2
      exact HYES.out HZ.out _ HV2.out
  ·have HZ:Hid (sgnB (bl s) p m c=false):=by
    unfold Hid
    rw[HB.out,beq_eq_false_iff_ne.2 (fun h=>h1 (.inl h)),beq_eq_false_iff_ne.2 (fun h=>h1 (.inr h))];simp
   have t1:((s[0].toNat:Int) != (p.toNat:Int))=true:=(u8_ne (fun h=>h1 (.inl h))).1
   have t2:((s[0].toNat:Int) != (m.toNat:Int))=true:=(u8_ne (fun h=>h1 (.inr h))).1
   clear h1
   go_enter Tryz.func394,Tryz.ntmps394
   go_wp2
   go_ret2
   exact HNO.out HZ.out
 ·have HJ:Hid (sgnB (bl s) p m c=false):=by
   unfold Hid sgnB;rw[decide_eq_false (p:=(bl s).length=c+7) (by rw[bl_len];exact hl)];rfl
  have hne:((s.size:Int) != (c:Int)+7)=true:=bne_iff_ne.2 (by omega)
  clear hl
  go_enter Tryz.func394,Tryz.ntmps394
  go_wp2
  go_ret2
  exact HNO.out HJ.out


theorem latB_ways (a:Int):(Hid (latB a=true) ∧ -32400000≤a∧a≤32400000)∨(Hid (latB a=false)∧(a < -32400000∨(-32400000≤a∧32400000<a))):=by
 unfold latB Hid
 rcases Int.lt_or_le a (-32400000) with h|h
 ·exact .inr ⟨by rw[decide_eq_false (p := -32400000≤a) (by omega)];rfl,.inl h⟩
 ·rcases Int.lt_or_le 32400000 a with h2|h2
  ·exact .inr ⟨by rw[decide_eq_false (p:=a≤32400000) (by omega),Bool.and_false],.inr ⟨h,h2⟩⟩
  ·exact .inl ⟨by rw[decide_eq_true h,decide_eq_true h2];rfl,h,h2⟩
theorem lonB_ways (a:Int):(Hid (lonB a=true) ∧ -64800000<a∧a≤64800000)∨(Hid (lonB a=false)∧(a ≤ -64800000∨(-64800000<a∧64800000<a))):=by
 unfold lonB Hid
 rcases Int.lt_or_le (-64800000) a with h|h
 ·rcases Int.lt_or_le 64800000 a with h2|h2
  ·exact .inr ⟨by rw[decide_eq_false (p:=a≤64800000) (by omega),Bool.and_false],.inr ⟨h,h2⟩⟩
  ·exact .inl ⟨by rw[decide_eq_true h,decide_eq_true h2];rfl,h,h2⟩
 ·exact .inr ⟨by rw[decide_eq_false (p := -64800000<a) (by omega)];rfl,.inl h⟩
set_option maxHeartbeats 400000 in
theorem isLat_any (a:Int) (w:World):Calls Tryz.prog 248 #[.int .i64 a] w fun e w'=>e=.returned (.bool (latB a))∧w=w':=by
 rcases latB_ways a with ⟨hb,h1,h2⟩|⟨hb,h1|⟨h1,h2⟩⟩
 all_goals
  go_enter Tryz.func248,Tryz.ntmps248
  go_wp2
  go_ret
  exact⟨ret_bool (by first|(rw[hb.out];done)|(rw[hb.out];exact decide_eq_false (by omega))|(rw[hb.out];exact decide_eq_true (by omega))|exact hb.out.symm),rfl⟩
set_option maxHeartbeats 400000 in
theorem isLon_any (a:Int) (w:World):Calls Tryz.prog 250 #[.int .i64 a] w fun e w'=>e=.returned (.bool (lonB a))∧w=w':=by
 rcases lonB_ways a with ⟨hb,h1,h2⟩|⟨hb,h1|⟨h1,h2⟩⟩
 all_goals
  go_enter Tryz.func250,Tryz.ntmps250
  go_wp2
  go_ret
  exact⟨ret_bool (by first|(rw[hb.out];done)|(rw[hb.out];exact decide_eq_false (by omega))|(rw[hb.out];exact decide_eq_true (by omega))|exact hb.out.symm),rfl⟩
def CoordPost (v er:Int) (w:World) (e:Ending) (w':World):Prop:=e=.returned (.tuple #[.int .i64 v,.int .i64 er])∧Drawn w w'
set_option maxHeartbeats 1000000 in
theorem parseLat_any (s:ByteArray) (w:World) (hs:s.size≤maxLen):Calls Tryz.prog 359 #[.string s] w (CoordPost (latPV (bl s)) (latPErr (bl s)) w):=by
 have HP:Hid (∀(v er:Int) w',latPErr (bl s)=er→latPV (bl s)=v→Drawn w w'→CoordPost (latPV (bl s)) (latPErr (bl s)) w (.returned (.tuple #[.int .i64 v,.int .i64 er])) w'):=by
  intro v er w' h1 h2 h3;unfold CoordPost;rw[h1,h2];exact⟨rfl,h3⟩
 have HC:=parse_any s 78 83 2 w (by decide) hs
 have HCC:Hid (∀K:Ending→World→Prop,(∀e w',SgnPost (bl s) 78 83 2 w e w'→K e w')→True):=fun _ _=>trivial
 clear HCC
 go_enter Tryz.func359,Tryz.ntmps359
 go_wp2_with fail
 refine HC.mono ?_
 rintro e w' ⟨rfl,k,rfl⟩
 clear HC
 show _
 have HS:Hid (latPErr (bl s)=if sgnB (bl s) 78 83 2 then (if latB (sgnV (bl s) 83 2) then 0 else 2) else 4):=rfl
 cases hb:sgnB (bl s) 78 83 2 with
 | false =>
  have HB:=Lib.hid hb
  try rw[hb]
  clear hb
  simp only[Bool.false_eq_true,if_false]
  have h4:Hid (latPErr (bl s)=4):=by unfold Hid;rw[HS.out,HB.out];rfl
  have hv:Hid (latPV (bl s)=0):=by unfold Hid latPV;rw[h4.out];rfl
  go_wp2
  go_ret2
  exact HP.out _ _ _ h4.out hv.out ⟨_,rfl⟩
 | true =>
  have HB:=Lib.hid hb
  try rw[hb]
  clear hb
  simp only[if_true]
  obtain⟨a,ha⟩:∃a,sgnV (bl s) 83 2=a:=⟨_,rfl⟩
  have HA:=Lib.hid ha
  try rw[ha]
  clear ha
  rcases latB_ways a with ⟨hx,h1,h2⟩|⟨hx,h1|⟨h1,h2⟩⟩
  ·have h4:Hid (latPErr (bl s)=0):=by unfold Hid;rw[HS.out,HB.out,HA.out,hx.out];rfl
   have hv:Hid (latPV (bl s)=a):=by unfold Hid latPV;rw[h4.out];exact HA.out
   go_wp2_with fail
   first
    | (refine(isLat_any a _).mono ?_;rintro e w' ⟨rfl,rfl⟩;rw[hx.out];go_wp2;go_ret2)
    | go_ret2
   exact HP.out _ _ _ h4.out hv.out ⟨_,rfl⟩
  all_goals
   have h4:Hid (latPErr (bl s)=2):=by unfold Hid;rw[HS.out,HB.out,HA.out,hx.out];rfl
   have hv:Hid (latPV (bl s)=0):=by unfold Hid latPV;rw[h4.out];rfl
   go_wp2_with fail
   first
    | (refine(isLat_any a _).mono ?_;rintro e w' ⟨rfl,rfl⟩;rw[hx.out];go_wp2;go_ret2)
    | go_ret2
   exact HP.out _ _ _ h4.out hv.out ⟨_,rfl⟩
set_option maxHeartbeats 1000000 in
theorem parseLon_any (s:ByteArray) (w:World) (hs:s.size≤maxLen):Calls Tryz.prog 360 #[.string s] w (CoordPost (lonPV (bl s)) (lonPErr (bl s)) w):=by
 have HP:Hid (∀(v er:Int) w',lonPErr (bl s)=er→lonPV (bl s)=v→Drawn w w'→CoordPost (lonPV (bl s)) (lonPErr (bl s)) w (.returned (.tuple #[.int .i64 v,.int .i64 er])) w'):=by
  intro v er w' h1 h2 h3;unfold CoordPost;rw[h1,h2];exact⟨rfl,h3⟩
 have HC:=parse_any s 69 87 3 w (by decide) hs
 have HCC:Hid (∀K:Ending→World→Prop,(∀e w',SgnPost (bl s) 69 87 3 w e w'→K e w')→True):=fun _ _=>trivial
 clear HCC
 go_enter Tryz.func360,Tryz.ntmps360
 go_wp2_with fail
 refine HC.mono ?_
 rintro e w' ⟨rfl,k,rfl⟩
 clear HC
 show _
 have HS:Hid (lonPErr (bl s)=if sgnB (bl s) 69 87 3 then (if lonB (sgnV (bl s) 87 3) then 0 else 2) else 4):=rfl
 cases hb:sgnB (bl s) 69 87 3 with
 | false =>
  have HB:=Lib.hid hb
  try rw[hb]
  clear hb
  simp only[Bool.false_eq_true,if_false]
  have h4:Hid (lonPErr (bl s)=4):=by unfold Hid;rw[HS.out,HB.out];rfl
  have hv:Hid (lonPV (bl s)=0):=by unfold Hid lonPV;rw[h4.out];rfl
  go_wp2
  go_ret2
  exact HP.out _ _ _ h4.out hv.out ⟨_,rfl⟩
 | true =>
  have HB:=Lib.hid hb
  try rw[hb]
  clear hb
  simp only[if_true]
  obtain⟨a,ha⟩:∃a,sgnV (bl s) 87 3=a:=⟨_,rfl⟩
  have HA:=Lib.hid ha
  try rw[ha]
  clear ha
  rcases lonB_ways a with ⟨hx,h1,h2⟩|⟨hx,h1|⟨h1,h2⟩⟩
  ·have h4:Hid (lonPErr (bl s)=0):=by unfold Hid;rw[HS.out,HB.out,HA.out,hx.out];rfl
   have hv:Hid (lonPV (bl s)=a):=by unfold Hid lonPV;rw[h4.out];exact HA.out
   go_wp2_with fail
   first
    | (refine(isLon_any a _).mono ?_;rintro e w' ⟨rfl,rfl⟩;rw[hx.out];go_wp2;go_ret2)
    | go_ret2
   exact HP.out _ _ _ h4.out hv.out ⟨_,rfl⟩
  all_goals
   have h4:Hid (lonPErr (bl s)=2):=by unfold Hid;rw[HS.out,HB.out,HA.out,hx.out];rfl
   have hv:Hid (lonPV (bl s)=0):=by unfold Hid lonPV;rw[h4.out];rfl
   go_wp2_with fail
   first
    | (refine(isLon_any a _).mono ?_;rintro e w' ⟨rfl,rfl⟩;rw[hx.out];go_wp2;go_ret2)
    | go_ret2
   exact HP.out _ _ _ h4.out hv.out ⟨_,rfl⟩

def PosPPost (l:List UInt8) (w:World) (e:Ending) (w':World):Prop:=e=.returned (.tuple #[.agg #[.int .i64 (posPLat l),.int .i64 (posPLon l)],.int .i64 (posPErr l)])∧Below w.heap.size w w'
set_option maxHeartbeats 2000000 in
theorem parsePos_any (s:ByteArray) (w:World) (hs:s.size≤maxLen):Calls Tryz.prog 315 #[.string s] w (PosPPost (bl s) w):=by
 unfold maxLen at hs
 have HP:Hid (∀(a b er:Int) w',posPErr (bl s)=er→posPLat (bl s)=a→posPLon (bl s)=b→Below w.heap.size w w'→PosPPost (bl s) w (.returned (.tuple #[.agg #[.int .i64 a,.int .i64 b],.int .i64 er])) w'):=by
  intro a b er w' h1 h2 h3 h4;unfold PosPPost;rw[h1,h2,h3];exact⟨rfl,h4⟩
 have HZ:Hid (posPErr (bl s)≠0→posPLat (bl s)=0∧posPLon (bl s)=0):=by
  intro h;unfold posPLat posPLon;rw[if_neg h,if_neg h];exact⟨rfl,rfl⟩
 by_cases hl:s.size=19
 ·have h19:((s.size:Int) != 19)=false:=bne_eq_false_iff_eq.2 (by omega)
  have h9:9≤s.size:=by omega
  have h9':(9:Int)≤(s.size:Int):=by omega
  have HE:Hid (posPErr (bl s)=if latPErr ((bl s).take 9)=0 then lonPErr ((bl s).drop 9) else latPErr ((bl s).take 9)):=by
   unfold Hid posPErr;rw[if_pos (show(bl s).length=19 from hl)]
  have e1:Hid (bl (s.extract 0 9)=(bl s).take 9):=by unfold Hid;rw[bl_extract];rfl
  have e2:Hid (bl (s.extract 9 s.size)=(bl s).drop 9):=by unfold Hid;rw[bl_extract,List.take_of_length_le (by rw[List.length_drop,bl_len];omega)]
  have HLa:Hid (posPErr (bl s)=0→posPLat (bl s)=latPV ((bl s).take 9)∧posPLon (bl s)=lonPV ((bl s).drop 9)):=by
   intro h;unfold posPLat posPLon;rw[if_pos h,if_pos h];exact⟨rfl,rfl⟩
  clear hl
  go_enter Tryz.func315,Tryz.ntmps315
  go_wp2_with fail
  refine(parseLat_any _ _ (by rw[ByteArray.size_extract];unfold maxLen;omega)).mono ?_
  rintro e w' ⟨rfl,k,rfl⟩
  rw[e1.out]
  obtain⟨ea,hea⟩:∃e,latPErr ((bl s).take 9)=e:=⟨_,rfl⟩
  obtain⟨va,hva⟩:∃v,latPV ((bl s).take 9)=v:=⟨_,rfl⟩
  rw[hea] at HE
  rw[hva] at HLa
  rw[hea,hva]
  clear hea hva
  by_cases h0:ea=0
  ·have e3:(ea != 0)=false:=bne_eq_false_iff_eq.2 h0
   rw[if_pos h0] at HE
   have H0:=Lib.hid h0
   clear h0
   go_wp2_with fail
   refine(parseLon_any _ _ (by rw[ByteArray.size_extract];unfold maxLen;omega)).mono ?_
   rintro e w' ⟨rfl,k2,rfl⟩
   rw[e2.out]
   obtain⟨eb,heb⟩:∃e,lonPErr ((bl s).drop 9)=e:=⟨_,rfl⟩
   obtain⟨vb,hvb⟩:∃v,lonPV ((bl s).drop 9)=v:=⟨_,rfl⟩
   rw[heb] at HE
   rw[hvb] at HLa
   rw[heb,hvb]
   clear heb hvb
   by_cases h0:eb=0
   ·have e4:(eb != 0)=false:=bne_eq_false_iff_eq.2 h0
    have H1:=Lib.hid h0
    clear h0
    have HR:=Lib.hid (HLa.out (HE.out.trans H1.out))
    have HE0:=Lib.hid (HE.out.trans H1.out)
    go_wp2
    exact bodyPost_ret (v:=.tuple #[.agg #[.int .i64 va,.int .i64 vb],.int .i64 0]) (by simp[results,Tryz.results315,go_sem]) rfl (HP.out _ _ _ _ HE0.out HR.out.1 HR.out.2 (by repeat(first|exact Below.refl _ _|refine Below.setCell ?_ (by simp) _|refine below_drewN' ?_ _|refine Below.alloc ?_ (by simp) _)))
   ·have e4:(eb != 0)=true:=bne_iff_ne.2 h0
    have H1:=Lib.hid h0
    have HR:=Lib.hid (HZ.out (by rw[HE.out];exact h0))
    clear h0
    go_wp2
    exact bodyPost_ret (v:=.tuple #[.agg #[.int .i64 0,.int .i64 0],.int .i64 eb]) (by simp[results,Tryz.results315,go_sem]) rfl (HP.out _ _ _ _ HE.out HR.out.1 HR.out.2 (by repeat(first|exact Below.refl _ _|refine Below.setCell ?_ (by simp) _|refine below_drewN' ?_ _|refine Below.alloc ?_ (by simp) _)))
  ·have e3:(ea != 0)=true:=bne_iff_ne.2 h0
   rw[if_neg h0] at HE
   have H0:=Lib.hid h0
   have HR:=Lib.hid (HZ.out (by rw[HE.out];exact h0))
   clear h0
   go_wp2
   exact bodyPost_ret (v:=.tuple #[.agg #[.int .i64 0,.int .i64 0],.int .i64 ea]) (by simp[results,Tryz.results315,go_sem]) rfl (HP.out _ _ _ _ HE.out HR.out.1 HR.out.2 (by repeat(first|exact Below.refl _ _|refine Below.setCell ?_ (by simp) _|refine below_drewN' ?_ _|refine Below.alloc ?_ (by simp) _)))
 ·have h19:((s.size:Int) != 19)=true:=bne_iff_ne.2 (by omega)
  have HE:Hid (posPErr (bl s)=4):=by unfold Hid posPErr;rw[if_neg (show ¬(bl s).length=19 from hl)]
  clear hl
  go_enter Tryz.func315,Tryz.ntmps315
  have HR:=Lib.hid (HZ.out (by rw[HE.out];decide))
  go_wp2
  exact bodyPost_ret (v:=.tuple #[.agg #[.int .i64 0,.int .i64 0],.int .i64 4]) (by simp[results,Tryz.results315,go_sem]) rfl (HP.out _ _ _ _ HE.out HR.out.1 HR.out.2 (by repeat(first|exact Below.refl _ _|refine Below.setCell ?_ (by simp) _|refine below_drewN' ?_ _|refine Below.alloc ?_ (by simp) _)))

theorem ScP.c3 {w:World} {g:Nat} {s:Sc} (h:ScP w g s):w.cell? ⟨g,3,none⟩=some (.int .i64 s.la):=by
 obtain⟨_,v,h,_⟩:=h;exact blkCell h 3 rfl
theorem field_any (s:Sc) (g:Nat) (w:World) (h:ScP w g s) :
  Calls Tryz.prog 256 #[.pointer (some ⟨g,0,none⟩)] w fun e w'=>e=.returned (.string (sb s.text))∧ScPost s.take g w w':=by
 have H:=Lib.hid h
 clear h
 go_enter Tryz.func256,Tryz.ntmps256
 go_wp2_with fail
 refine(take_any s g _ H.out).mono ?_
 rintro e w1 ⟨rfl,hp⟩
 have HP:=Lib.hid hp
 clear hp
 go_wp2
 go_ret
 exact⟨rfl,HP.out⟩
theorem failS_any (s:Sc) (er:Int) (g:Nat) (w:World) (h:ScP w g s) :
  Calls Tryz.prog 259 #[.pointer (some ⟨g,0,none⟩),.int .i64 er] w fun e w'=>e=.returned (.tuple #[])∧ScPost (s.note s.la er) g w w':=by
 have c3:=h.c3
 have H:=Lib.hid h
 clear h
 go_enter Tryz.func259,Tryz.ntmps259
 go_wp2_with fail
 refine(note_any s s.la er g _ H.out).mono ?_
 rintro e w1 ⟨rfl,hp⟩
 have HP:=Lib.hid hp
 clear hp
 go_wp2
 go_end0
 exact⟨rfl,HP.out⟩
def WdR (w:World) (g:Nat) (v:Value) (ws:List (List UInt8)):Prop :=
 ∃A c,v=.slice A ws.length c∧ws.length≤c∧c≤maxLen∧(0<ws.length→∃h o,A=some ⟨h,o,none⟩∧h<w.heap.size∧h≠g∧∀k (hk:k<ws.length),w.cell? ⟨h,o+k,none⟩=some (.string (sb ws[k])))
theorem WdR.off {w w':World} {g:Nat} {v:Value} {ws:List (List UInt8)} (h:WdR w g v ws) (ho:Off g w w'):WdR w' g v ws:=by
 obtain⟨A,c,hv,hc,hm,hr⟩:=h
 refine⟨A,c,hv,hc,hm,fun h0 => ?_⟩
 obtain⟨b,o,hA,hb,hn,hx⟩:=hr h0
 exact⟨b,o,hA,Nat.lt_of_lt_of_le hb ho.size,hn,fun k hk=>(ho.cell hb hn).trans (hx k hk)⟩
theorem WdR.at_ {w:World} {g:Nat} {v:Value} {ws:List (List UInt8)} (h:WdR w g v ws) {k:Nat} (hk:k<ws.length) :
  ∃b o c,v=.slice (some ⟨b,o,none⟩) ws.length c∧w.cell? ⟨b,o+k,none⟩=some (.string (sb ws[k])):=by
 obtain⟨A,c,hv,hc,hm,hr⟩:=h
 obtain⟨b,o,rfl,hb,hn,hx⟩:=hr (by omega)
 exact⟨b,o,c,hv,hx k hk⟩

theorem text_size {s:Sc} (h:s.text.length≤140737488351232):(sb s.text).size≤140737488351232:=h
end Go.Proofs.YtgmehlgfilpleaaGreatDoor
