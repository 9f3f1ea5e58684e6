/-
  Several texts as one.
-/
import Derived.Test.YtgmehlgfilpleaaGreatDoorMG01
namespace Go.Proofs.YtgmehlgfilpleaaGreatDoor
open Go.RowKit
set_option linter.unusedVariables false
set_option linter.unusedSimpArgs false

theorem decDigits_len (n:Nat):(Lib.decDigits n).length≤n+1:=by
 induction n using Nat.strongRecOn with
 | _ n ih =>
  rw[Lib.decDigits]
  split
  ·simp
  ·have:=ih (n/10) (by omega)
   simp only[List.length_append,List.length_cons,List.length_nil]
   omega
theorem fmt10 (n:Nat) (h1:n≤9223372036854775807) (w:World) (E:Env w) :
  Calls Tryz.prog 251 #[.int .i64 (n:Int),.int .i64 10] w fun e w'=>∃t,e=.returned (.string t)∧Hid (bl t=Lib.decDigits n)∧t.size≤n+1∧Below w.heap.size w w':=by
 refine(Tryz.strconv_FormatInt_10 n (by omega) (by omega) w E.pow10).mono ?_
 rintro e w' ⟨rfl,k,os,rfl⟩
 have h2:Lib.itoa (n:Int)=Lib.decDigits n:=by unfold Lib.itoa;rw[if_neg (by omega)];rfl
 refine⟨_,rfl,?_,?_,below_grow w k os⟩
 ·rw[h2];rfl
 ·rw[h2];exact decDigits_len n

def altAbs (b:Nat):List UInt8:=Lib.decDigits (b/100)++(if b%100=0 then [] else 46::Lib.decDigits (b%100/10)++Lib.decDigits (b%10))
def altTextL (a:Int):List UInt8:=if a<0 then 45::altAbs (-a).toNat else altAbs a.toNat
def altOut (a:Int):List UInt8:=if rangedB a then altTextL a else []
def altErr (a:Int):Int:=if rangedB a then 0 else 2
theorem rangedB_yes {a:Int} (h1 : -200000≤a) (h2:a≤6000000):rangedB a=true:=by unfold rangedB;rw[decide_eq_true h1,decide_eq_true h2];rfl
theorem rangedB_no {a:Int} (h:a < -200000∨6000000<a):rangedB a=false:=by
 unfold rangedB;rcases h with h|h
 ·rw[decide_eq_false (by omega)];rfl
 ·rw[decide_eq_false (p:=a≤6000000) (by omega),Bool.and_false]
theorem altAbs_whole {b:Nat} (h:b%100=0):altAbs b=Lib.decDigits (b/100):=by unfold altAbs;rw[if_pos h,List.append_nil]
theorem altAbs_part {b:Nat} (h:¬b%100=0):altAbs b=Lib.decDigits (b/100)++(46::Lib.decDigits (b%100/10)++Lib.decDigits (b%10)):=by unfold altAbs;rw[if_neg h]
theorem str_size {t:ByteArray} {l:List UInt8} (h:bl t=l):t.size=l.length:=by rw[←h,bl_len]

set_option maxHeartbeats 400000 in
theorem altText_bad (a:Int) (w:World) (h:a < -200000∨6000000<a) :
  Calls Tryz.prog 173 #[.int .i64 a] w fun e w'=>∃t,e=.returned (.tuple #[.string t,.int .i64 2])∧Hid (bl t=[])∧w=w':=by
 have h':a < -200000 ∨ -200000≤a∧6000000<a:=by omega
 clear h
 rcases h' with h|⟨h,h2⟩
 all_goals
  go_enter Tryz.func173,Tryz.ntmps173
  go_wp2
  go_ret2
  exact⟨_,rfl,rfl,rfl⟩

set_option maxHeartbeats 400000 in
theorem altText_neg (b:Nat) (w:World) (h:1≤b) (h2:b≤200000) (E:Env w) :
  Calls Tryz.prog 173 #[.int .i64 (-(b:Int))] w fun e w'=>∃t,e=.returned (.tuple #[.string t,.int .i64 0])∧Hid (bl t=45::altAbs b)∧Below w.heap.size w w':=by
 have q1:=Lib.hid (show(b:Int)/100=((b/100:Nat):Int) by omega)
 have q2:=Lib.hid (show(b:Int)%100/10=((b%100/10:Nat):Int) by omega)
 have q3:=Lib.hid (show(b:Int)%10=((b%10:Nat):Int) by omega)
 by_cases hk:b%100=0
 ·have hk':((b:Int)%100 != 0)=false:=by simp only[bne_eq_false_iff_eq];omega
  have HK:=Lib.hid hk;clear hk
  go_enter Tryz.func173,Tryz.ntmps173
  go_wp2_with fail
  rw[q1.out]
  refine(fmt10 (b/100) (by omega) _ E).mono ?_
  rintro e w1 ⟨t1,rfl,ht1,hs1,hb1⟩
  go_wp2_with fail
  go_ret2
  refine⟨_,rfl,?_,hb1⟩
  show bl (⟨#[45]⟩++t1)=_
  simp only[bl_append,ht1.out,altAbs_whole HK.out,bl_mk,List.cons_append,List.nil_append]
 ·have hk':((b:Int)%100 != 0)=true:=by rw[bne_iff_ne];omega
  go_enter Tryz.func173,Tryz.ntmps173
  go_wp2_with fail
  rw[q1.out]
  refine(fmt10 (b/100) (by omega) _ E).mono ?_
  rintro e w1 ⟨t1,rfl,ht1,hs1,hb1⟩
  go_wp2_with fail
  rw[q2.out]
  refine(fmt10 (b%100/10) (by omega) _ (E.below hb1)).mono ?_
  rintro e w2 ⟨t2,rfl,ht2,hs2,hb2⟩
  go_wp2_with fail
  rw[q3.out]
  refine(fmt10 (b%10) (by omega) _ ((E.below hb1).below hb2)).mono ?_
  rintro e w3 ⟨t3,rfl,ht3,hs3,hb3⟩
  go_wp2_with fail
  go_ret2
  refine⟨_,rfl,?_,Below.then_ (Below.then_ hb1 hb2) hb3⟩
  show bl (⟨#[45]⟩++t1++(⟨#[46]⟩++t2++t3))=_
  simp only[bl_append,ht1.out,ht2.out,ht3.out,altAbs_part hk,bl_mk,List.cons_append,List.nil_append,List.append_assoc]
set_option maxHeartbeats 400000 in
theorem altText_pos (b:Nat) (w:World) (h:0≤b) (h2:b≤6000000) (E:Env w) :
  Calls Tryz.prog 173 #[.int .i64 (b:Int)] w fun e w'=>∃t,e=.returned (.tuple #[.string t,.int .i64 0])∧Hid (bl t =  altAbs b)∧Below w.heap.size w w':=by
 have q1:=Lib.hid (show(b:Int)/100=((b/100:Nat):Int) by omega)
 have q2:=Lib.hid (show(b:Int)%100/10=((b%100/10:Nat):Int) by omega)
 have q3:=Lib.hid (show(b:Int)%10=((b%10:Nat):Int) by omega)
 by_cases hk:b%100=0
 ·have hk':((b:Int)%100 != 0)=false:=by simp only[bne_eq_false_iff_eq];omega
  have HK:=Lib.hid hk;clear hk
  go_enter Tryz.func173,Tryz.ntmps173
  go_wp2_with fail
  rw[q1.out]
  refine(fmt10 (b/100) (by omega) _ E).mono ?_
  rintro e w1 ⟨t1,rfl,ht1,hs1,hb1⟩
  go_wp2_with fail
  go_ret2
  refine⟨_,rfl,?_,hb1⟩
  show bl (t1)=_
  simp only[bl_append,ht1.out,altAbs_whole HK.out,bl_mk,List.cons_append,List.nil_append]
 ·have hk':((b:Int)%100 != 0)=true:=by rw[bne_iff_ne];omega
  go_enter Tryz.func173,Tryz.ntmps173
  go_wp2_with fail
  rw[q1.out]
  refine(fmt10 (b/100) (by omega) _ E).mono ?_
  rintro e w1 ⟨t1,rfl,ht1,hs1,hb1⟩
  go_wp2_with fail
  rw[q2.out]
  refine(fmt10 (b%100/10) (by omega) _ (E.below hb1)).mono ?_
  rintro e w2 ⟨t2,rfl,ht2,hs2,hb2⟩
  go_wp2_with fail
  rw[q3.out]
  refine(fmt10 (b%10) (by omega) _ ((E.below hb1).below hb2)).mono ?_
  rintro e w3 ⟨t3,rfl,ht3,hs3,hb3⟩
  go_wp2_with fail
  go_ret2
  refine⟨_,rfl,?_,Below.then_ (Below.then_ hb1 hb2) hb3⟩
  show bl (t1++(⟨#[46]⟩++t2++t3))=_
  simp only[bl_append,ht1.out,ht2.out,ht3.out,altAbs_part hk,bl_mk,List.cons_append,List.nil_append,List.append_assoc]
theorem altOut_neg {b:Nat} (h:1≤b) (h2:b≤200000):altOut (-(b:Int))=45::altAbs b:=by
 unfold altOut altTextL;rw[if_pos (rangedB_yes (by omega) (by omega)),if_pos (by omega)];simp
theorem altOut_pos {b:Nat} (h2:b≤6000000):altOut (b:Int)=altAbs b:=by
 unfold altOut altTextL;rw[if_pos (rangedB_yes (by omega) (by omega)),if_neg (by omega)];simp
theorem altOut_bad {a:Int} (h:a < -200000∨6000000<a):altOut a=[]:=by unfold altOut;rw[rangedB_no h];rfl
theorem altErr_bad {a:Int} (h:a < -200000∨6000000<a):altErr a=2:=by unfold altErr;rw[rangedB_no h];rfl
theorem altErr_ok {a:Int} (h : -200000≤a) (h2:a≤6000000):altErr a=0:=by unfold altErr;rw[rangedB_yes h h2];rfl
theorem altAbs_len {b:Nat} (h2:b≤6000000):(altAbs b).length≤70000:=by
 unfold altAbs
 have h1:=decDigits_len (b/100)
 have h3:=decDigits_len (b%100/10)
 have h4:=decDigits_len (b%10)
 split
 ·simp only[List.append_nil];omega
 ·simp only[List.length_append,List.length_cons];omega
theorem altOut_len (a:Int):(altOut a).length≤70001:=by
 by_cases h:a < -200000∨6000000<a
 ·rw[altOut_bad h];simp
 ·by_cases hn:a<0
  ·obtain⟨b,rfl⟩:∃b:Nat,a = -(b:Int):=⟨(-a).toNat,by omega⟩
   rw[altOut_neg (by omega) (by omega)]
   have:=@altAbs_len b (by omega)
   simp only[List.length_cons];omega
  ·obtain⟨b,rfl⟩:∃b:Nat,a=(b:Int):=⟨a.toNat,by omega⟩
   rw[altOut_pos (by omega)]
   have:=@altAbs_len b (by omega)
   omega
theorem altText_any (a:Int) (w:World) (E:Env w) :
  Calls Tryz.prog 173 #[.int .i64 a] w fun e w'=>∃t,e=.returned (.tuple #[.string t,.int .i64 (altErr a)])∧Hid (bl t=altOut a)∧t.size≤70001∧Below w.heap.size w w':=by
 have hl:=altOut_len a
 by_cases h:a < -200000∨6000000<a
 ·rw[altErr_bad h]
  refine(altText_bad a w h).mono ?_
  rintro e w' ⟨t,he,ht,hw⟩
  exact⟨t,he,by rw[altOut_bad h];exact ht,by rw[str_size ht];simp,(by subst hw;exact Below.refl _ _)⟩
 ·rw[altErr_ok (by omega) (by omega)]
  by_cases hn:a<0
  ·obtain⟨b,rfl⟩:∃b:Nat,a = -(b:Int):=⟨(-a).toNat,by omega⟩
   refine(altText_neg b w (by omega) (by omega) E).mono ?_
   rintro e w' ⟨t,he,ht,hw⟩
   have ht':bl t=altOut (-(b:Int)):=by rw[altOut_neg (by omega) (by omega)];exact ht
   exact⟨t,he,ht',by rw[str_size ht'];exact hl,hw⟩
  ·obtain⟨b,rfl⟩:∃b:Nat,a=(b:Int):=⟨a.toNat,by omega⟩
   refine(altText_pos b w (by omega) (by omega) E).mono ?_
   rintro e w' ⟨t,he,ht,hw⟩
   have ht':bl t=altOut (b:Int):=by rw[altOut_pos (by omega)];exact ht
   exact⟨t,he,ht',by rw[str_size ht'];exact hl,hw⟩

theorem boxed2 {w w1:World} {a b:Value} {t:TypeId} (h:Below (w.alloc (.cells #[a,b] t)).heap.size (w.alloc (.cells #[a,b] t)) w1) :
  w1.cell? ⟨w.heap.size,0,none⟩=some a∧w1.cell? ⟨w.heap.size,1,none⟩=some b :=
 ⟨(h.cell (p:=⟨w.heap.size,0,none⟩) (by simp)).trans (by simp[go_sem]),(h.cell (p:=⟨w.heap.size,1,none⟩) (by simp)).trans (by simp[go_sem])⟩
theorem below_box {w w1:World} {o:Obj} (h:Below (w.alloc o).heap.size (w.alloc o) w1):Below w.heap.size w w1 :=
 ((Below.refl _ _).alloc (Nat.le_refl _) o).trans (h.mono (by simp))

def winBad (lo hi:Int):Prop:=lo < -200000∨hi<lo∨6000000<hi
instance (lo hi:Int):Decidable (winBad lo hi):=by unfold winBad;infer_instance
def winText (lo hi:Int):List UInt8 :=
 if lo = -200000∧hi=6000000 then [45] else if lo=hi then altOut lo else if hi=6000000 then altOut lo++[43] else if lo = -200000 then altOut hi++[45] else altOut lo++58::altOut hi
def winOut (lo hi:Int):List UInt8:=if winBad lo hi then [] else winText lo hi
def winErr (lo hi:Int):Int:=if winBad lo hi then 1 else 0

set_option maxHeartbeats 400000 in
theorem winText_bad (lo hi:Int) (w:World) (h:winBad lo hi) :
  Calls Tryz.prog 175 #[.agg #[.int .i64 lo,.int .i64 hi]] w fun e w'=>∃t,e=.returned (.tuple #[.string t,.int .i64 1])∧Hid (bl t=[])∧Below w.heap.size w w':=by
 have h':lo < -200000∨(-200000≤lo∧hi<lo)∨(-200000≤lo∧lo≤hi∧6000000<hi):=by unfold winBad at h;omega
 clear h
 rcases h' with h|⟨h,h2⟩|⟨h,h2,h3⟩
 all_goals
  go_enter Tryz.func175,Tryz.ntmps175
  go_wp2
  go_ret2
  exact⟨_,rfl,rfl,(Below.refl _ _).alloc (Nat.le_refl _) _⟩

set_option maxHeartbeats 1000000 in
theorem winText_ok (lo hi:Int) (w:World) (E:Env w) (h:¬winBad lo hi) :
  Calls Tryz.prog 175 #[.agg #[.int .i64 lo,.int .i64 hi]] w fun e w'=>∃t,e=.returned (.tuple #[.string t,.int .i64 0])∧Hid (bl t=winText lo hi)∧Below w.heap.size w w':=by
 have l1 : -200000≤lo:=by unfold winBad at h;omega
 have l2:lo≤hi:=by unfold winBad at h;omega
 have l3:hi≤6000000:=by unfold winBad at h;omega
 clear h
 have h':(Hid (winText lo hi=[45])∧lo ≤ -200000∧6000000≤hi)∨(Hid (winText lo hi=altOut lo)∧lo ≤ -200000∧hi≤lo)∨(Hid (winText lo hi=altOut lo) ∧ -200000<lo∧hi≤lo)∨(Hid (winText lo hi=altOut lo++[43]) ∧ -200000<lo∧lo<hi∧6000000≤hi)∨(Hid (winText lo hi=altOut hi++[45])∧lo ≤ -200000∧lo<hi∧hi<6000000)∨(Hid (winText lo hi=altOut lo++58::altOut hi) ∧ -200000<lo∧lo<hi∧hi<6000000):=by
  unfold winText Hid
  by_cases a:lo = -200000∧hi=6000000
  ·exact .inl ⟨by rw[if_pos a],by omega,by omega⟩
  ·by_cases b:lo=hi
   ·by_cases c:lo = -200000
    ·exact .inr (.inl ⟨by rw[if_neg a,if_pos b],by omega,by omega⟩)
    ·exact .inr (.inr (.inl ⟨by rw[if_neg a,if_pos b],by omega,by omega⟩))
   ·by_cases c:hi=6000000
    ·exact .inr (.inr (.inr (.inl ⟨by rw[if_neg a,if_neg b,if_pos c],by omega,by omega,by omega⟩)))
    ·by_cases d:lo = -200000
     ·exact .inr (.inr (.inr (.inr (.inl ⟨by rw[if_neg a,if_neg b,if_neg c,if_pos d],by omega,by omega,by omega⟩))))
     ·exact .inr (.inr (.inr (.inr (.inr ⟨by rw[if_neg a,if_neg b,if_neg c,if_neg d],by omega,by omega,by omega⟩))))
 rcases h' with ⟨hw,c1,c2⟩|⟨hw,c1,c2⟩|⟨hw,c1,c2⟩|⟨hw,c1,c2,c3⟩|⟨hw,c1,c2,c3⟩|⟨hw,c1,c2,c3⟩

 all_goals
  go_enter Tryz.func175,Tryz.ntmps175
  go_wp2_with fail
  refine(altText_any lo _ (E.alloc _)).mono ?_
  rintro e w1 ⟨t1,rfl,ht1,hs1,hb1⟩
  obtain⟨k0,k1⟩:=boxed2 hb1
  go_wp2_with fail
  refine(altText_any hi _ ((E.alloc _).below hb1)).mono ?_
  rintro e w2 ⟨t2,rfl,ht2,hs2,hb2⟩
  have hb:=Below.then_ hb1 hb2;obtain⟨k2,k3⟩:=boxed2 hb
  go_wp2
  go_ret2
  refine⟨_,rfl,?_,below_box hb⟩
  unfold Hid
  rw[hw.out]
  first
  | (show bl ⟨#[45]⟩=[45];rfl)
  | (show bl t1=altOut lo;exact ht1.out)
  | (show bl (t1++⟨#[43]⟩)=_;rw[bl_append,ht1.out];rfl)
  | (show bl (t2++⟨#[45]⟩)=_;rw[bl_append,ht2.out];rfl)
  | (show bl (t1++⟨#[58]⟩++t2)=_;rw[bl_append,bl_append,ht1.out,ht2.out,bl_mk,List.append_assoc];rfl)

theorem winText_any (lo hi:Int) (w:World) (E:Env w) :
  Calls Tryz.prog 175 #[.agg #[.int .i64 lo,.int .i64 hi]] w fun e w'=>∃t,e=.returned (.tuple #[.string t,.int .i64 (winErr lo hi)])∧Hid (bl t=winOut lo hi)∧Below w.heap.size w w':=by
 by_cases h:winBad lo hi
 ·have h1:winErr lo hi=1:=if_pos h
  have h2:winOut lo hi=[]:=if_pos h
  rw[h1,h2]
  exact winText_bad lo hi w h
 ·have h1:winErr lo hi=0:=if_neg h
  have h2:winOut lo hi=winText lo hi:=if_neg h
  rw[h1,h2]
  exact winText_ok lo hi w E h

def cutAt (c:UInt8):List UInt8→List UInt8 × List UInt8 × Bool
 | []=>([],[],false)
 | x::l=>if x=c then ([],l,true) else (x::(cutAt c l).1,(cutAt c l).2.1,(cutAt c l).2.2)
def headIs (c:UInt8) (l:List UInt8):Bool:=l.head? == some c
def lastIs (c:UInt8) (l:List UInt8):Bool:=l.getLast? == some c

theorem index_one (c:UInt8) (l:List UInt8) :
  (Lib.index l [c] = -1∧cutAt c l=(l,[],false))∨∃i:Nat,Lib.index l [c]=i∧cutAt c l=(l.take i,l.drop (i+1),true):=by
 induction l with
 | nil=>exact .inl ⟨rfl,rfl⟩
 | cons x l ih =>
  unfold Lib.index cutAt
  by_cases h:x=c
  ·subst h
   exact .inr ⟨0,by simp,by simp⟩
  ·have h1:([c].isPrefixOf (x::l))=false:=by simp[List.isPrefixOf,Ne.symm h]
   rw[h1]
   rcases ih with ⟨h2,h3⟩|⟨i,h2,h3⟩
   ·rw[h2,h3];exact .inl ⟨by simp,by simp[h]⟩
   ·rw[h2,h3]
    have h4:((i:Int) == -1)=false:=by rw[beq_eq_false_iff_ne];omega
    exact .inr ⟨i+1,by simp[h4],by simp[h]⟩
theorem str_len {a:List UInt8} {s:ByteArray} (h:a.length≤(bl s).length):(sb a).size≤s.size:=h

def Drawn (w w':World):Prop:=∃m,w'=w.drewN m
theorem Drawn.refl (w:World):Drawn w w:=⟨0,rfl⟩
theorem Drawn.trans {a b c:World} (h:Drawn a b) (k:Drawn b c):Drawn a c:=by
 obtain⟨m,rfl⟩:=h
 obtain⟨n,rfl⟩:=k
 exact⟨m+n,by rw[World.drewN_drewN]⟩
theorem Drawn.more {w w':World} (h:Drawn w w') (n:Nat):Drawn w (w'.drewN n):=h.trans ⟨n,rfl⟩
theorem Drawn.below {w w':World} (h:Drawn w w') {b:Nat}:Below b w w':=by
 obtain⟨m,rfl⟩:=h
 exact below_drewN' (Below.refl _ _) m
def CutPost (s:ByteArray) (c:UInt8) (w:World) (e:Ending) (w':World):Prop :=
 ∃a b f,e=.returned (.tuple #[.string a,.string b,.bool f])∧Hid (cutAt c (bl s)=(bl a,bl b,f))∧a.size≤s.size∧b.size≤s.size∧Drawn w w'
theorem cutAt_byte (c:UInt8) (l:List UInt8) :
  (Lib.indexByte l c = -1∧cutAt c l=(l,[],false))∨∃i:Nat,Lib.indexByte l c=i∧i<l.length∧cutAt c l=(l.take i,l.drop (i+1),true):=by
 induction l with
 | nil=>exact .inl ⟨rfl,rfl⟩
 | cons x l ih =>
  unfold Lib.indexByte cutAt
  by_cases h:x=c
  ·subst h
   exact .inr ⟨0,by simp,by simp,by simp⟩
  ·have h1:(x == c)=false:=beq_eq_false_iff_ne.2 h
   rw[h1]
   rcases ih with ⟨h2,h3⟩|⟨i,h2,h4,h3⟩
   ·rw[h2,h3];exact .inl ⟨by simp,by simp[h]⟩
   ·rw[h2,h3]
    have h5:((i:Int) == -1)=false:=by rw[beq_eq_false_iff_ne];omega
    exact .inr ⟨i+1,by simp[h5],by simp;omega,by simp[h]⟩
theorem cut_ways (s:ByteArray) (c:UInt8):(∃h:Hid (cutAt c (bl s)=(bl s,[],false)),Lib.indexByte s.data.toList c = -1) ∨
  ∃i:Nat,i<s.size∧Lib.indexByte s.data.toList c=i∧Hid (cutAt c (bl s)=(bl (s.extract 0 i),bl (s.extract (i+1) s.size),true)):=by
 rcases cutAt_byte c (bl s) with ⟨h1,h2⟩|⟨i,h1,h2,h3⟩
 ·exact .inl ⟨h2,h1⟩
 ·refine .inr ⟨i,h2,h1,?_⟩
  unfold Hid
  rw[h3,bl_extract,bl_extract,List.drop_zero,Nat.sub_zero,List.take_of_length_le (l:=(bl s).drop (i+1)) (by rw[List.length_drop,bl_len];omega)]
set_option maxHeartbeats 400000 in
theorem slCut_any (s:ByteArray) (c:UInt8) (w:World) (hs:s.size≤maxLen) :
  Calls Tryz.prog 296 #[.string s,.string ⟨#[c]⟩] w (CutPost s c w):=by
 unfold maxLen at hs
 rcases cut_ways s c with ⟨h,hi⟩|⟨i,hi,hx,h⟩
 ·have HI:=Lib.hid hi
  clear hi
  go_enter Tryz.func296,Tryz.ntmps296
  go_wp2_with fail
  refine(Tryz.stringslite_Index_one s c _).mono ?_
  rintro e w1 ⟨rfl,rfl⟩
  rw[HI.out]
  go_wp2
  go_ret3
  exact⟨s,⟨#[]⟩,false,rfl,h,Nat.le_refl _,Nat.zero_le _,Drawn.refl _⟩
 ·have HI:=Lib.hid hx
  clear hx
  have hsa:(s.extract 0 i).size≤s.size:=by rw[ByteArray.size_extract];omega
  have hsb:(s.extract (i+1) s.size).size≤s.size:=by rw[ByteArray.size_extract];omega
  go_enter Tryz.func296,Tryz.ntmps296
  go_wp2_with fail
  refine(Tryz.stringslite_Index_one s c _).mono ?_
  rintro e w1 ⟨rfl,rfl⟩
  rw[HI.out]
  go_wp2
  go_quiet (fail)
  go_wp2
  go_ret3
  exact⟨_,_,true,rfl,h,hsa,hsb,_,rfl⟩
set_option maxHeartbeats 400000 in
theorem cutAny (s:ByteArray) (c:UInt8) (w:World) (hs:s.size≤maxLen) :
  Calls Tryz.prog 222 #[.string s,.string ⟨#[c]⟩] w (CutPost s c w):=by
 go_enter Tryz.func222,Tryz.ntmps222
 go_wp2_with fail
 refine(slCut_any s c _ hs).mono ?_
 rintro e w1 ⟨a,b,f,rfl,h⟩
 go_wp2
 go_ret3
 exact⟨a,b,f,rfl,h⟩

theorem cut1 (s:ByteArray) (c:UInt8) (w:World) (E:Env w) (hs:s.size≤140737488351232) :
  Calls Tryz.prog 222 #[.string s,.string ⟨#[c]⟩] w fun e w'=>∃a b f,e=.returned (.tuple #[.string a,.string b,.bool f])∧Hid (cutAt c (bl s)=(bl a,bl b,f))∧a.size≤s.size∧b.size≤s.size∧Below w.heap.size w w' :=
 (cutAny s c w (by unfold maxLen;omega)).mono fun _ _ ⟨a,b,f,h1,h2,h3,h4,h5⟩=>⟨a,b,f,h1,h2,h3,h4,h5.below⟩

theorem cutPrefix1 (s:ByteArray) (c:UInt8) (w:World) :
  Calls Tryz.prog 395 #[.string s,.string ⟨#[c]⟩] w fun e w'=>∃r f,e=.returned (.tuple #[.string r,.bool f])∧Hid (f=headIs c (bl s))∧Hid (bl r=if f then (bl s).tail else bl s)∧r.size≤s.size∧w=w':=by
 refine(Tryz.strings_CutPrefix s ⟨#[c]⟩ w).mono ?_
 rintro e w' ⟨rfl,rfl⟩
 have h1:Lib.hasPrefix s.data.toList (⟨#[c]⟩:ByteArray).data.toList=headIs c (bl s):=by
  show Lib.hasPrefix (bl s) [c]=_
  unfold Lib.hasPrefix headIs
  cases bl s with
  | nil=>rfl
  | cons x l=>simp[List.isPrefixOf,Bool.beq_comm (a:=c)]
 have h2:Lib.trimPrefix s.data.toList (⟨#[c]⟩:ByteArray).data.toList=if headIs c (bl s) then (bl s).tail else bl s:=by
  unfold Lib.trimPrefix
  rw[h1]
  show(if headIs c (bl s) then (bl s).drop 1 else bl s)=_
  rw[List.drop_one]
 rw[h1,h2]
 refine⟨sb _,_,rfl,rfl,rfl,?_,rfl⟩
 apply str_len
 split
 ·simp
 ·exact Nat.le_refl _
theorem cutSuffix1 (s:ByteArray) (c:UInt8) (w:World) (hs:s.size≤maxLen) :
  Calls Tryz.prog 416 #[.string s,.string ⟨#[c]⟩] w fun e w'=>∃r f,e=.returned (.tuple #[.string r,.bool f])∧Hid (f=lastIs c (bl s))∧Hid (bl r=if f then (bl s).dropLast else bl s)∧r.size≤s.size∧w=w':=by
 unfold maxLen at hs
 refine(Tryz.strings_CutSuffix s ⟨#[c]⟩ w (by omega)).mono ?_
 rintro e w' ⟨rfl,rfl⟩
 have h1:Lib.hasSuffix s.data.toList (⟨#[c]⟩:ByteArray).data.toList=lastIs c (bl s):=by
  show Lib.hasSuffix (bl s) [c]=_
  unfold Lib.hasSuffix lastIs
  rw[Bool.eq_iff_iff,List.isSuffixOf_iff_suffix,beq_iff_eq,List.getLast?_eq_some_iff]
  exact exists_congr fun _=>eq_comm
 have h2:Lib.trimSuffix s.data.toList (⟨#[c]⟩:ByteArray).data.toList=if lastIs c (bl s) then (bl s).dropLast else bl s:=by
  unfold Lib.trimSuffix
  rw[h1]
  show(if lastIs c (bl s) then (bl s).take ((bl s).length-1) else bl s)=_
  rw[List.dropLast_eq_take]
 rw[h1,h2]
 refine⟨sb _,_,rfl,rfl,rfl,?_,rfl⟩
 apply str_len
 split
 ·simp
 ·exact Nat.le_refl _

def shortB (l:List UInt8):Bool:=l.length == 2&&l.all nameC
theorem shortB_len {s:ByteArray} (h:¬s.size=2):shortB (bl s)=false:=by
 unfold shortB
 have:((bl s).length == 2)=false:=by rw[beq_eq_false_iff_ne];exact h
 rw[this];rfl
theorem shortB_of {s:ByteArray} (h:s.size=2):shortB (bl s)=(bl s).all nameC:=by
 unfold shortB
 have:((bl s).length == 2)=true:=by rw[beq_iff_eq];exact h
 rw[this];rfl
theorem nameC_ways (c:UInt8):(Hid (nameC c=true)∧((65≤(c.toNat:Int)∧(c.toNat:Int)≤90)∨((c.toNat:Int)<65∧48≤(c.toNat:Int)∧(c.toNat:Int)≤57))) ∨
  (Hid (nameC c=false)∧(((c.toNat:Int)<65∧(c.toNat:Int)<48)∨((c.toNat:Int)<65∧48≤(c.toNat:Int)∧57<(c.toNat:Int))∨(65≤(c.toNat:Int)∧90<(c.toNat:Int)∧48≤(c.toNat:Int)∧57<(c.toNat:Int)))):=by
 by_cases h:(65≤(c.toNat:Int)∧(c.toNat:Int)≤90)∨(48≤(c.toNat:Int)∧(c.toNat:Int)≤57)
 ·exact .inl ⟨nameC_yes h,by omega⟩
 ·exact .inr ⟨nameC_no (by omega) (by omega),by omega⟩
set_option maxHeartbeats 1000000 in
theorem short_any (s:ByteArray) (w:World) (hs:s.size≤maxLen) :
  Calls Tryz.prog 146 #[.string s] w fun e w'=>e=.returned (.bool (shortB (bl s)))∧w=w':=by
 unfold maxLen at hs
 by_cases h2:s.size=2
 ·have H2:=Lib.hid h2
  have e2:((s.size:Int) != 2)=false:=by rw[bne_eq_false_iff_eq];omega
  have b1:2≤s.size:=by omega
  have b2:s.size≤2:=by omega
  clear h2
  go_enter Tryz.func146,Tryz.ntmps146
  go_wp2
  go_loop [9] (fun i=>∃k:Nat,k≤s.size∧i=.int .i64 k∧Hid (((bl s).take k).all nameC=true)) (fun i=>s.size-(intOf i).toNat)
  case atStart=>exact⟨0,Nat.zero_le _,rfl,rfl⟩
  case round =>
   obtain⟨k,hk,rfl,hall⟩:=hrel
   by_cases h:k<s.size
   ·have hk2:(k:Int)<2:=by omega
    rcases nameC_ways s[k] with ⟨hn,hc⟩|⟨hn,hc⟩
    ·have HA:=Lib.hid (all_take_succ hall.out h hn.out)
     clear hn
     rcases hc with ⟨c1,c2⟩|⟨c1,c2,c3⟩
     all_goals
      go_wp2
      go_round
      case rel=>exact⟨k+1,h,by go_num,HA.out⟩
      case measure=>simp[intOf];omega
    ·have HF:Hid (shortB (bl s)=false):=by unfold Hid;rw[shortB_of H2.out,all_false_at (l:=bl s) (k:=k) h hn.out]
     clear hn
     rcases hc with ⟨c1,c2⟩|⟨c1,c2,c3⟩|⟨c1,c2,c3,c4⟩
     all_goals
      go_wp2
      go_ret
      exact⟨ret_bool HF.out.symm,rfl⟩
   ·have hk2:(2:Int)≤(k:Int):=by omega
    go_wp2
    go_ret
    exact⟨ret_bool (by rw[shortB_of H2.out,all_take_all hall.out (by rw[bl_len];omega)]),rfl⟩
 ·have e2:((s.size:Int) != 2)=true:=by rw[bne_iff_ne];omega
  have HF:=Lib.hid (shortB_len h2)
  clear h2
  go_enter Tryz.func146,Tryz.ntmps146
  go_wp2
  go_ret
  exact⟨ret_bool HF.out.symm,rfl⟩
set_option maxHeartbeats 1000000 in
theorem region_any (s:ByteArray) (w:World) (hs:s.size≤maxLen) :
  Calls Tryz.prog 204 #[.string s] w fun e w'=>e=.returned (.bool (shortB (bl s)))∧w=w':=by
 unfold maxLen at hs
 by_cases h2:s.size=2
 ·have H2:=Lib.hid h2
  have e2:((s.size:Int) != 2)=false:=by rw[bne_eq_false_iff_eq];omega
  have b1:2≤s.size:=by omega
  have b2:s.size≤2:=by omega
  clear h2
  go_enter Tryz.func204,Tryz.ntmps204
  go_wp2
  go_loop [3] (fun i=>∃k:Nat,k≤s.size∧i=.int .i64 k∧Hid (((bl s).take k).all nameC=true)) (fun i=>s.size-(intOf i).toNat)
  case atStart=>exact⟨0,Nat.zero_le _,rfl,rfl⟩
  case round =>
   obtain⟨k,hk,rfl,hall⟩:=hrel
   by_cases h:k<s.size
   ·have hk2:(k:Int)<2:=by omega
    rcases nameC_ways s[k] with ⟨hn,hc⟩|⟨hn,hc⟩
    ·have HA:=Lib.hid (all_take_succ hall.out h hn.out)
     clear hn
     rcases hc with ⟨c1,c2⟩|⟨c1,c2,c3⟩
     all_goals
      go_wp2
      go_round
      case rel=>exact⟨k+1,h,by go_num,HA.out⟩
      case measure=>simp[intOf];omega
    ·have HF:Hid (shortB (bl s)=false):=by unfold Hid;rw[shortB_of H2.out,all_false_at (l:=bl s) (k:=k) h hn.out]
     clear hn
     rcases hc with ⟨c1,c2⟩|⟨c1,c2,c3⟩|⟨c1,c2,c3,c4⟩
     all_goals
      go_wp2
      go_ret
      exact⟨ret_bool HF.out.symm,rfl⟩
   ·have hk2:(2:Int)≤(k:Int):=by omega
    go_wp2
    go_ret
    exact⟨ret_bool (by rw[shortB_of H2.out,all_take_all hall.out (by rw[bl_len];omega)]),rfl⟩
 ·have e2:((s.size:Int) != 2)=true:=by rw[bne_iff_ne];omega
  have HF:=Lib.hid (shortB_len h2)
  clear h2
  go_enter Tryz.func204,Tryz.ntmps204
  go_wp2
  go_ret
  exact⟨ret_bool HF.out.symm,rfl⟩

def refB (a b:List UInt8):Bool:=nameB a 6&&(nameB b 6 || shortB b)
def refErr (l:List UInt8):Int:=if (cutAt 47 l).2.2 then (if refB (cutAt 47 l).1 (cutAt 47 l).2.1 then 0 else 5) else 4
def refFst (l:List UInt8):List UInt8:=if refErr l=0 then (cutAt 47 l).1 else []
def refSnd (l:List UInt8):List UInt8:=if refErr l=0 then (cutAt 47 l).2.1 else []
def RefTPost (s:ByteArray) (w:World) (e:Ending) (w':World):Prop :=
 ∃a b,e=.returned (.tuple #[.string a,.string b,.int .i64 (refErr (bl s))])∧Hid (bl a=refFst (bl s))∧Hid (bl b=refSnd (bl s))∧a.size≤s.size∧b.size≤s.size∧Drawn w w'
theorem refErr_no {s:ByteArray} {x y:List UInt8} (h:cutAt 47 (bl s)=(x,y,false)):refErr (bl s)=4:=by unfold refErr;rw[h];rfl
theorem refErr_yes {s:ByteArray} {x y:List UInt8} (h:cutAt 47 (bl s)=(x,y,true)):refErr (bl s)=if refB x y then 0 else 5:=by unfold refErr;rw[h];rfl
theorem refTPost_bad {s:ByteArray} {w w':World} {n:Int} (h:refErr (bl s)=n) (h0:n≠0) (hd:Drawn w w'):RefTPost s w (.returned (.tuple #[.string ⟨#[]⟩,.string ⟨#[]⟩,.int .i64 n])) w':=by
 subst h
 refine⟨_,_,rfl,?_,?_,Nat.zero_le _,Nat.zero_le _,hd⟩
 ·unfold Hid refFst;rw[if_neg h0];rfl
 ·unfold Hid refSnd;rw[if_neg h0];rfl
theorem refTPost_ok {s a b:ByteArray} {w w':World} (h:cutAt 47 (bl s)=(bl a,bl b,true)) (hr:refB (bl a) (bl b)=true) (ha:a.size≤s.size) (hb:b.size≤s.size) (hd:Drawn w w'):RefTPost s w (.returned (.tuple #[.string a,.string b,.int .i64 0])) w':=by
 have h0:refErr (bl s)=0:=by rw[refErr_yes h,if_pos hr]
 refine⟨a,b,by rw[h0],?_,?_,ha,hb,hd⟩
 ·unfold Hid refFst;rw[if_pos h0,h]
 ·unfold Hid refSnd;rw[if_pos h0,h]
theorem refB_ways (a b:List UInt8):(nameB a 6=false∧Hid (refB a b=false))∨(nameB a 6=true∧((nameB b 6=true∧Hid (refB a b=true))∨(nameB b 6=false∧((shortB b=true∧Hid (refB a b=true))∨(shortB b=false∧Hid (refB a b=false)))))):=by
 unfold refB Hid
 cases nameB a 6 <;> cases nameB b 6 <;> cases shortB b <;> simp
set_option maxHeartbeats 1000000 in
theorem splitRef_any (s:ByteArray) (w:World) (hs:s.size≤maxLen) :
  Calls Tryz.prog 147 #[.string s] w (RefTPost s w):=by
 go_enter Tryz.func147,Tryz.ntmps147
 go_wp2_with fail
 refine(cutAny s 47 _ hs).mono ?_
 rintro e w1 ⟨a,b,f,rfl,hcut,has,hbs,hd⟩
 cases f
 ·go_wp2
  go_ret3
  exact refTPost_bad (refErr_no hcut.out) (by decide) hd
 ·go_wp2_with fail
  refine(name_any a 6 _ (Nat.le_trans has hs)).mono ?_
  rintro e w' ⟨rfl,rfl⟩
  rcases refB_ways (bl a) (bl b) with ⟨h1,hr⟩|⟨h1,⟨h2,hr⟩|⟨h2,⟨h3,hr⟩|⟨h3,hr⟩⟩⟩
  ·rw[h1]
   clear h1
   go_wp2
   go_ret3
   exact refTPost_bad (n:=5) (by rw[refErr_yes hcut.out,hr.out];rfl) (by decide) hd
  all_goals
   rw[h1]
   have H2:=Lib.hid h2
   clear h1 h2
   go_wp2_with fail
   refine(name_any b 6 _ (Nat.le_trans hbs hs)).mono ?_
   rintro e w' ⟨rfl,rfl⟩
   rw[H2.out]
  ·go_wp2
   go_ret3
   exact refTPost_ok hcut.out hr.out has hbs hd
  all_goals
   have H3:=Lib.hid h3
   clear h3
   go_wp2_with fail
   refine(short_any b _ (Nat.le_trans hbs hs)).mono ?_
   rintro e w' ⟨rfl,rfl⟩
   rw[H3.out]
  ·go_wp2
   go_ret3
   exact refTPost_ok hcut.out hr.out has hbs hd
  ·go_wp2
   go_ret3
   exact refTPost_bad (n:=5) (by rw[refErr_yes hcut.out,hr.out];rfl) (by decide) hd
theorem cutHere {s:ByteArray} {j:Nat} (c:UInt8) (hj:j<s.size) (h:s[j]=c) (hn:c ∉ (bl s).take j):cutAt c (bl s)=(bl (s.extract 0 j),bl (s.extract (j+1) s.size),true):=by
 rcases cut_ways s c with ⟨h1,_⟩|⟨i,hi,_,h1⟩
 ·exfalso
  have hm:c∈bl s:=by rw[←h];exact List.getElem_mem (l:=bl s) (n:=j) hj
  rcases cutAt_byte c (bl s) with ⟨h2,_⟩|⟨i,_,_,h3⟩
  ·obtain⟨k,hk,hk2⟩:=List.getElem_of_mem hm
   exact Lib.indexByte_none h2 k (by rw[List.getElem?_eq_getElem hk,hk2])
  ·rw[h1.out] at h3;simp at h3
 ·rcases cutAt_byte c (bl s) with ⟨_,h3⟩|⟨k,h2,hk,h3⟩
  ·rw[h1.out] at h3;simp at h3
  ·obtain⟨k1,k2⟩:=Lib.indexByte_some h2
   have hkj:k=j:=by
    rcases Nat.lt_trichotomy k j with hlt|heq|hgt
    ·exfalso
     apply hn
     have:((bl s).take j)[k]? = some c:=by rw[List.getElem?_take,if_pos hlt];exact k1
     exact List.mem_of_getElem? this
    ·exact heq
    ·exact absurd (by rw[bl_get? s j hj,h]) (k2 j hgt)
   subst hkj
   rw[h3,bl_extract,bl_extract,List.drop_zero,Nat.sub_zero,List.take_of_length_le (l:=(bl s).drop (k+1)) (by rw[List.length_drop,bl_len];omega)]
theorem cutNone {s:ByteArray} {j:Nat} (c:UInt8) (hj:s.size≤j) (hn:c ∉ (bl s).take j):cutAt c (bl s)=(bl s,[],false):=by
 rw[List.take_of_length_le (by rw[bl_len];exact hj)] at hn
 rcases cutAt_byte c (bl s) with ⟨_,h3⟩|⟨k,h2,hk,h3⟩
 ·exact h3
 ·exact absurd (List.mem_of_getElem? (Lib.indexByte_some h2).1) hn
theorem notinMore {s:ByteArray} {j:Nat} {c:UInt8} (hj:j<s.size) (h:s[j]≠c) (hn:c ∉ (bl s).take j):c ∉ (bl s).take (j+1):=by
 rw[List.take_succ_eq_append_getElem (show j<(bl s).length from hj),List.mem_append,List.mem_singleton]
 rintro(e|e)
 ·exact hn e
 ·exact h e.symm
set_option maxHeartbeats 1000000 in
theorem rsplitRef_any (s:ByteArray) (w:World) (hs:s.size≤maxLen) :
  Calls Tryz.prog 136 #[.string s] w (RefTPost s w):=by
 have hs':=hs
 unfold maxLen at hs
 go_enter Tryz.func136,Tryz.ntmps136
 go_wp2
 go_loop [5] (fun i=>∃j:Nat,j≤s.size∧i=.int .i64 j∧Hid ((47:UInt8) ∉ (bl s).take j)) (fun i=>s.size-(intOf i).toNat)
 case atStart=>exact⟨0,Nat.zero_le _,rfl,by unfold Hid;simp⟩
 case round =>
  obtain⟨j,hj,rfl,hno⟩:=hrel
  by_cases hjs:j<s.size
  ·by_cases h47:(s[j].toNat:Int)=47
   ·have e47:((s[j].toNat:Int) == 47)=true:=beq_iff_eq.2 h47
    have hcut:=Lib.hid (cutHere 47 hjs ((u8_eq (n:=47) (by omega)).1 (by omega)) hno.out)
    have has:(s.extract 0 j).size≤s.size:=by rw[ByteArray.size_extract];omega
    have hbs:(s.extract (j+1) s.size).size≤s.size:=by rw[ByteArray.size_extract];omega
    clear h47
    go_wp2
    go_quiet (fail)
    obtain⟨a,ha⟩:∃a,s.extract 0 j=a:=⟨_,rfl⟩
    obtain⟨b,hb⟩:∃b,s.extract (j+1) s.size=b:=⟨_,rfl⟩
    rw[ha] at hcut has ⊢
    rw[hb] at hcut hbs ⊢
    clear ha hb
    have hd:Drawn w (w.drewN nq):=⟨nq,rfl⟩
    go_wp2_with fail
    refine(rname_any a 6 _ (Nat.le_trans has hs')).mono ?_
    rintro e w' ⟨rfl,rfl⟩
    rcases refB_ways (bl a) (bl b) with ⟨h1,hr⟩|⟨h1,⟨h2,hr⟩|⟨h2,⟨h3,hr⟩|⟨h3,hr⟩⟩⟩
    ·rw[h1]
     clear h1
     go_wp2
     go_ret3
     exact refTPost_bad (n:=5) (by rw[refErr_yes hcut.out,hr.out];rfl) (by decide) hd
    all_goals
     rw[h1]
     have H2:=Lib.hid h2
     clear h1 h2
     go_wp2_with fail
     refine(rname_any b 6 _ (Nat.le_trans hbs hs')).mono ?_
     rintro e w' ⟨rfl,rfl⟩
     rw[H2.out]
    ·go_wp2
     go_ret3
     exact refTPost_ok hcut.out hr.out has hbs hd
    all_goals
     have H3:=Lib.hid h3
     clear h3
     go_wp2_with fail
     refine(region_any b _ (Nat.le_trans hbs hs')).mono ?_
     rintro e w' ⟨rfl,rfl⟩
     rw[H3.out]
    ·go_wp2
     go_ret3
     exact refTPost_ok hcut.out hr.out has hbs hd
    ·go_wp2
     go_ret3
     exact refTPost_bad (n:=5) (by rw[refErr_yes hcut.out,hr.out];rfl) (by decide) hd
   ·have e47:((s[j].toNat:Int) == 47)=false:=beq_eq_false_iff_ne.2 h47
    have HN2:=Lib.hid (notinMore (c:=47) hjs (fun e=>h47 (by rw[e];rfl)) hno.out)
    clear h47
    go_wp2
    go_round
    case rel=>exact⟨j+1,hjs,by go_num,HN2.out⟩
    case measure=>simp[intOf];omega
  ·have hcut:=Lib.hid (cutNone 47 (by omega) hno.out)
   go_wp2
   go_ret3
   exact refTPost_bad (refErr_no hcut.out) (by decide) (Drawn.refl _)
end Go.Proofs.YtgmehlgfilpleaaGreatDoor
