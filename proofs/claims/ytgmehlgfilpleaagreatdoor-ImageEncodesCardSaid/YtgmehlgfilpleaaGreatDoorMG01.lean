/-
  Several texts as one.
-/
import Derived.Test.YtgmehlgfilpleaaGreatDoorBase
import Derived.Lib.ParseIntB
import Derived.Deep.CutRange
import Derived.Deep.DeepCutAuto
namespace Go.Proofs.YtgmehlgfilpleaaGreatDoor
open Go.RowKit
set_option linter.unusedVariables false
set_option linter.unusedSimpArgs false

def digitB (c:UInt8):Bool:=decide (48≤c.toNat)&&decide (c.toNat≤57)
def upperB (c:UInt8):Bool:=decide (65≤c.toNat)&&decide (c.toNat≤90)
def nameC (c:UInt8):Bool:=upperB c || digitB c
def zeroAhead (l:List UInt8):Bool:=decide (1<l.length)&&l.headD 0 == 48
def plainB (l:List UInt8):Bool := !l.isEmpty && !zeroAhead l&&l.all digitB
def nameB (l:List UInt8) (most:Int):Bool:=decide (0<l.length)&&decide ((l.length:Int)≤most)&&upperB (l.headD 0)&&l.all nameC
def rangedB (a:Int):Bool:=decide (-200000≤a)&&decide (a≤6000000)

theorem digitB_no {c:UInt8} (h:(c.toNat:Int)<48∨57<(c.toNat:Int)):digitB c=false:=by
 unfold digitB;rcases h with h|h
 ·rw[decide_eq_false (by omega)];rfl
 ·rw[decide_eq_false (p:=c.toNat≤57) (by omega),Bool.and_false]
theorem digitB_yes {c:UInt8} (h1:48≤(c.toNat:Int)) (h2:(c.toNat:Int)≤57):digitB c=true:=by
 unfold digitB;rw[decide_eq_true (by omega),decide_eq_true (by omega)];rfl
theorem upperB_no {c:UInt8} (h:(c.toNat:Int)<65∨90<(c.toNat:Int)):upperB c=false:=by
 unfold upperB;rcases h with h|h
 ·rw[decide_eq_false (by omega)];rfl
 ·rw[decide_eq_false (p:=c.toNat≤90) (by omega),Bool.and_false]
theorem upperB_yes {c:UInt8} (h1:65≤(c.toNat:Int)) (h2:(c.toNat:Int)≤90):upperB c=true:=by
 unfold upperB;rw[decide_eq_true (by omega),decide_eq_true (by omega)];rfl
theorem nameC_yes {c:UInt8} (h:(65≤(c.toNat:Int)∧(c.toNat:Int)≤90)∨(48≤(c.toNat:Int)∧(c.toNat:Int)≤57)):nameC c=true:=by
 unfold nameC;rcases h with h|h
 ·rw[upperB_yes h.1 h.2];rfl
 ·rw[digitB_yes h.1 h.2,Bool.or_true]
theorem nameC_no {c:UInt8} (h:(c.toNat:Int)<65∨90<(c.toNat:Int)) (h':(c.toNat:Int)<48∨57<(c.toNat:Int)):nameC c=false:=by
 unfold nameC;rw[upperB_no h,digitB_no h'];rfl
theorem nameB_nil {s:ByteArray} {m:Int} (h:s.size=0):nameB (bl s) m=false:=by rw[bl_nil h];rfl
theorem nameB_long {s:ByteArray} {m:Int} (h:m<s.size):nameB (bl s) m=false:=by
 unfold nameB;rw[bl_len,decide_eq_false (p:=(s.size:Int)≤m) (by omega)];simp
theorem nameB_head {s:ByteArray} {m:Int} (h0:0<s.size) (h:(s[0].toNat:Int)<65∨90<(s[0].toNat:Int)):nameB (bl s) m=false:=by
 unfold nameB;rw[bl_head s h0,upperB_no h];simp
theorem nameB_of {s:ByteArray} {m:Int} (h0:0<s.size) (hm:(s.size:Int)≤m) (h1:65≤(s[0].toNat:Int)) (h2:(s[0].toNat:Int)≤90):nameB (bl s) m=(bl s).all nameC:=by
 unfold nameB;rw[bl_head s h0,upperB_yes h1 h2,bl_len,decide_eq_true h0,decide_eq_true hm];rfl
theorem name_no {s:ByteArray} {k:Nat} {m:Int} (HP:nameB (bl s) m=(bl s).all nameC) (hk:k<s.size) (h:(s[k].toNat:Int)<65∨90<(s[k].toNat:Int)) (h':(s[k].toNat:Int)<48∨57<(s[k].toNat:Int)):false=nameB (bl s) m:=by
 rw[HP,all_false_at (l:=bl s) (k:=k) hk (nameC_no h h')]
theorem name_yes {s:ByteArray} {k:Nat} {m:Int} (HP:nameB (bl s) m=(bl s).all nameC) (hk:¬k<s.size) (h:((bl s).take k).all nameC=true):true=nameB (bl s) m:=by
 rw[HP,all_take_all h (by rw[bl_len];omega)]

set_option maxHeartbeats 400000 in
theorem name_short (s:ByteArray) (m:Int) (w:World) (hs:s.size≤maxLen) (h0:s.size=0∨m<s.size) :
  Calls Tryz.prog 68 #[.string s,.int .i64 m] w fun e w'=>e=.returned (.bool false)∧w=w':=by
 unfold maxLen at hs
 have h:((s.size:Int) == 0)=true∧(s.size:Int)<1∨(((s.size:Int) == 0)=false∧1≤(s.size:Int))∧m<s.size:=by
  rcases Nat.eq_zero_or_pos s.size with h|h
  ·exact .inl ⟨by rw[beq_iff_eq];omega,by omega⟩
  ·exact .inr ⟨⟨by rw[beq_eq_false_iff_ne];omega,by omega⟩,by omega⟩
 clear h0
 rcases h with ⟨h,hl⟩|⟨⟨h,hl⟩,hm⟩
 all_goals
  go_enter Tryz.func68,Tryz.ntmps68
  go_wp2
  go_ret
  exact⟨rfl,rfl⟩
set_option maxHeartbeats 400000 in
theorem name_head (s:ByteArray) (m:Int) (w:World) (hs:s.size≤maxLen) (h0:0<s.size) (hm:(s.size:Int)≤m) (h:(s[0].toNat:Int)<65∨90<(s[0].toNat:Int)) :
  Calls Tryz.prog 68 #[.string s,.int .i64 m] w fun e w'=>e=.returned (.bool false)∧w=w':=by
 unfold maxLen at hs
 have hb:((s.size:Int) == 0)=false:=by rw[beq_eq_false_iff_ne];omega
 have hl:1≤(s.size:Int):=by omega
 have h':(s[0].toNat:Int)<65∨65≤(s[0].toNat:Int)∧90<(s[0].toNat:Int):=by omega
 clear h
 rcases h' with h|⟨h,h2⟩
 all_goals
  go_enter Tryz.func68,Tryz.ntmps68
  go_wp2
  go_ret
  exact⟨rfl,rfl⟩
set_option maxHeartbeats 1000000 in
theorem name_loop (s:ByteArray) (m:Int) (w:World) (hs:s.size≤maxLen) (h0:0<s.size) (hm:(s.size:Int)≤m) (h1:65≤(s[0].toNat:Int)) (h2:(s[0].toNat:Int)≤90) :
  Calls Tryz.prog 68 #[.string s,.int .i64 m] w fun e w'=>e=.returned (.bool (nameB (bl s) m))∧w=w':=by
 have HP:=Lib.hid (nameB_of h0 hm h1 h2)
 unfold maxLen at hs
 have hb:((s.size:Int) == 0)=false:=by rw[beq_eq_false_iff_ne];omega
 have hl:1≤(s.size:Int):=by omega
 go_enter Tryz.func68,Tryz.ntmps68
 go_wp2
 clear h1 h2
 go_loop [27] (fun i=>∃k:Nat,k≤s.size∧i=.int .i64 k∧Hid (((bl s).take k).all nameC=true)) (fun i=>s.size-(intOf i).toNat)
 case atStart=>exact⟨0,Nat.zero_le _,rfl,rfl⟩
 case round =>
  obtain⟨k,hk,rfl,hall⟩:=hrel
  by_cases h:k<s.size
  ·have hc:((65≤(s[k].toNat:Int)∧(s[k].toNat:Int)≤90)∨((s[k].toNat:Int)<65∧48≤(s[k].toNat:Int)∧(s[k].toNat:Int)≤57))∨((s[k].toNat:Int)<48∨(90<(s[k].toNat:Int))∨(57<(s[k].toNat:Int)∧(s[k].toNat:Int)<65)):=by omega
   rcases hc with (⟨c1,c2⟩|⟨c0,c1,c2⟩)|(c1|c1|⟨c1,c2⟩)
   ·go_wp2
    go_round
    case rel=>exact⟨k+1,h,by go_num,all_take_succ hall.out h (nameC_yes (.inl ⟨c1,c2⟩))⟩
    case measure=>simp[intOf];omega
   ·go_wp2
    go_round
    case rel=>exact⟨k+1,h,by go_num,all_take_succ hall.out h (nameC_yes (.inr ⟨c1,c2⟩))⟩
    case measure=>simp[intOf];omega
   all_goals
    go_wp2
    go_ret
    exact⟨ret_bool (name_no HP.out h (by omega) (by omega)),rfl⟩
  ·go_wp2
   go_ret
   exact⟨ret_bool (name_yes HP.out h hall.out),rfl⟩
theorem name_any (s:ByteArray) (m:Int) (w:World) (hs:s.size≤maxLen) :
  Calls Tryz.prog 68 #[.string s,.int .i64 m] w fun e w'=>e=.returned (.bool (nameB (bl s) m))∧w=w':=by
 by_cases h0:s.size=0
 ·rw[nameB_nil h0];exact name_short s m w hs (.inl h0)
 ·by_cases hm:m<s.size
  ·rw[nameB_long hm];exact name_short s m w hs (.inr hm)
  ·by_cases h:(s[0].toNat:Int)<65∨90<(s[0].toNat:Int)
   ·rw[nameB_head (by omega) h];exact name_head s m w hs (by omega) (by omega) h
   ·exact name_loop s m w hs (by omega) (by omega) (by omega) (by omega)
set_option maxHeartbeats 400000 in
theorem rname_short (s:ByteArray) (m:Int) (w:World) (hs:s.size≤maxLen) (h0:s.size=0∨m<s.size) :
  Calls Tryz.prog 125 #[.string s,.int .i64 m] w fun e w'=>e=.returned (.bool false)∧w=w':=by
 unfold maxLen at hs
 have h:((s.size:Int) == 0)=true∧(s.size:Int)<1∨(((s.size:Int) == 0)=false∧1≤(s.size:Int))∧m<s.size:=by
  rcases Nat.eq_zero_or_pos s.size with h|h
  ·exact .inl ⟨by rw[beq_iff_eq];omega,by omega⟩
  ·exact .inr ⟨⟨by rw[beq_eq_false_iff_ne];omega,by omega⟩,by omega⟩
 clear h0
 rcases h with ⟨h,hl⟩|⟨⟨h,hl⟩,hm⟩
 all_goals
  go_enter Tryz.func125,Tryz.ntmps125
  go_wp2
  go_ret
  exact⟨rfl,rfl⟩
set_option maxHeartbeats 400000 in
theorem rname_head (s:ByteArray) (m:Int) (w:World) (hs:s.size≤maxLen) (h0:0<s.size) (hm:(s.size:Int)≤m) (h:(s[0].toNat:Int)<65∨90<(s[0].toNat:Int)) :
  Calls Tryz.prog 125 #[.string s,.int .i64 m] w fun e w'=>e=.returned (.bool false)∧w=w':=by
 unfold maxLen at hs
 have hb:((s.size:Int) == 0)=false:=by rw[beq_eq_false_iff_ne];omega
 have hl:1≤(s.size:Int):=by omega
 have h':(s[0].toNat:Int)<65∨65≤(s[0].toNat:Int)∧90<(s[0].toNat:Int):=by omega
 clear h
 rcases h' with h|⟨h,h2⟩
 all_goals
  go_enter Tryz.func125,Tryz.ntmps125
  go_wp2
  go_ret
  exact⟨rfl,rfl⟩
set_option maxHeartbeats 1000000 in
theorem rname_loop (s:ByteArray) (m:Int) (w:World) (hs:s.size≤maxLen) (h0:0<s.size) (hm:(s.size:Int)≤m) (h1:65≤(s[0].toNat:Int)) (h2:(s[0].toNat:Int)≤90) :
  Calls Tryz.prog 125 #[.string s,.int .i64 m] w fun e w'=>e=.returned (.bool (nameB (bl s) m))∧w=w':=by
 have HP:=Lib.hid (nameB_of h0 hm h1 h2)
 unfold maxLen at hs
 have hb:((s.size:Int) == 0)=false:=by rw[beq_eq_false_iff_ne];omega
 have hl:1≤(s.size:Int):=by omega
 go_enter Tryz.func125,Tryz.ntmps125
 go_wp2
 clear h1 h2
 go_loop [5] (fun i=>∃k:Nat,k≤s.size∧i=.int .i64 k∧Hid (((bl s).take k).all nameC=true)) (fun i=>s.size-(intOf i).toNat)
 case atStart=>exact⟨0,Nat.zero_le _,rfl,rfl⟩
 case round =>
  obtain⟨k,hk,rfl,hall⟩:=hrel
  by_cases h:k<s.size
  ·have hc:((65≤(s[k].toNat:Int)∧(s[k].toNat:Int)≤90)∨((s[k].toNat:Int)<65∧48≤(s[k].toNat:Int)∧(s[k].toNat:Int)≤57))∨((s[k].toNat:Int)<48∨(90<(s[k].toNat:Int))∨(57<(s[k].toNat:Int)∧(s[k].toNat:Int)<65)):=by omega
   rcases hc with (⟨c1,c2⟩|⟨c0,c1,c2⟩)|(c1|c1|⟨c1,c2⟩)
   ·go_wp2
    go_round
    case rel=>exact⟨k+1,h,by go_num,all_take_succ hall.out h (nameC_yes (.inl ⟨c1,c2⟩))⟩
    case measure=>simp[intOf];omega
   ·go_wp2
    go_round
    case rel=>exact⟨k+1,h,by go_num,all_take_succ hall.out h (nameC_yes (.inr ⟨c1,c2⟩))⟩
    case measure=>simp[intOf];omega
   all_goals
    go_wp2
    go_ret
    exact⟨ret_bool (name_no HP.out h (by omega) (by omega)),rfl⟩
  ·go_wp2
   go_ret
   exact⟨ret_bool (name_yes HP.out h hall.out),rfl⟩
theorem rname_any (s:ByteArray) (m:Int) (w:World) (hs:s.size≤maxLen) :
  Calls Tryz.prog 125 #[.string s,.int .i64 m] w fun e w'=>e=.returned (.bool (nameB (bl s) m))∧w=w':=by
 by_cases h0:s.size=0
 ·rw[nameB_nil h0];exact rname_short s m w hs (.inl h0)
 ·by_cases hm:m<s.size
  ·rw[nameB_long hm];exact rname_short s m w hs (.inr hm)
  ·by_cases h:(s[0].toNat:Int)<65∨90<(s[0].toNat:Int)
   ·rw[nameB_head (by omega) h];exact rname_head s m w hs (by omega) (by omega) h
   ·exact rname_loop s m w hs (by omega) (by omega) (by omega) (by omega)

def altAbs (b:Nat):List UInt8:=Lib.decDigits (b/100)++(if b%100=0 then [] else 46::Lib.decDigits (b%100/10)++Lib.decDigits (b%10))
def altTextL (a:Int):List UInt8:=if a<0 then 45::altAbs (-a).toNat else altAbs a.toNat
def altOut (a:Int):List UInt8:=if rangedB a then altTextL a else []

def winBad (lo hi:Int):Prop:=lo < -200000∨hi<lo∨6000000<hi
instance (lo hi:Int):Decidable (winBad lo hi):=by unfold winBad;infer_instance
def winText (lo hi:Int):List UInt8 :=
 if lo = -200000∧hi=6000000 then [45] else if lo=hi then altOut lo else if hi=6000000 then altOut lo++[43] else if lo = -200000 then altOut hi++[45] else altOut lo++58::altOut hi
def winOut (lo hi:Int):List UInt8:=if winBad lo hi then [] else winText lo hi

def cutAt (c:UInt8):List UInt8→List UInt8 × List UInt8 × Bool
 | []=>([],[],false)
 | x::l=>if x=c then ([],l,true) else (x::(cutAt c l).1,(cutAt c l).2.1,(cutAt c l).2.2)
def headIs (c:UInt8) (l:List UInt8):Bool:=l.head? == some c
def lastIs (c:UInt8) (l:List UInt8):Bool:=l.getLast? == some c

theorem index_one (c:UInt8) (l:List UInt8) :
  (Lib.index l [c] = -1∧cutAt c l=(l,[],false))∨∃i:Nat,Lib.index l [c]=i∧cutAt c l=(l.take i,l.drop (i+1),true):=by
 induction l with
 | nil=>exact .inl ⟨rfl,rfl⟩
 | cons x l ih =>
  unfold Lib.index cutAt
  by_cases h:x=c
  ·subst h
   exact .inr ⟨0,by simp,by simp⟩
  ·have h1:([c].isPrefixOf (x::l))=false:=by simp[List.isPrefixOf,Ne.symm h]
   rw[h1]
   rcases ih with ⟨h2,h3⟩|⟨i,h2,h3⟩
   ·rw[h2,h3];exact .inl ⟨by simp,by simp[h]⟩
   ·rw[h2,h3]
    have h4:((i:Int) == -1)=false:=by rw[beq_eq_false_iff_ne];omega
    exact .inr ⟨i+1,by simp[h4],by simp[h]⟩
def Drawn (w w':World):Prop:=∃m,w'=w.drewN m
theorem Drawn.refl (w:World):Drawn w w:=⟨0,rfl⟩
theorem Drawn.trans {a b c:World} (h:Drawn a b) (k:Drawn b c):Drawn a c:=by
 obtain⟨m,rfl⟩:=h
 obtain⟨n,rfl⟩:=k
 exact⟨m+n,by rw[World.drewN_drewN]⟩
theorem Drawn.more {w w':World} (h:Drawn w w') (n:Nat):Drawn w (w'.drewN n):=h.trans ⟨n,rfl⟩
theorem Drawn.below {w w':World} (h:Drawn w w') {b:Nat}:Below b w w':=by
 obtain⟨m,rfl⟩:=h
 exact below_drewN' (Below.refl _ _) m
def CutPost (s:ByteArray) (c:UInt8) (w:World) (e:Ending) (w':World):Prop :=
 ∃a b f,e=.returned (.tuple #[.string a,.string b,.bool f])∧Hid (cutAt c (bl s)=(bl a,bl b,f))∧a.size≤s.size∧b.size≤s.size∧Drawn w w'
theorem cutAt_byte (c:UInt8) (l:List UInt8) :
  (Lib.indexByte l c = -1∧cutAt c l=(l,[],false))∨∃i:Nat,Lib.indexByte l c=i∧i<l.length∧cutAt c l=(l.take i,l.drop (i+1),true):=by
 induction l with
 | nil=>exact .inl ⟨rfl,rfl⟩
 | cons x l ih =>
  unfold Lib.indexByte cutAt
  by_cases h:x=c
  ·subst h
   exact .inr ⟨0,by simp,by simp,by simp⟩
  ·have h1:(x == c)=false:=beq_eq_false_iff_ne.2 h
   rw[h1]
   rcases ih with ⟨h2,h3⟩|⟨i,h2,h4,h3⟩
   ·rw[h2,h3];exact .inl ⟨by simp,by simp[h]⟩
   ·rw[h2,h3]
    have h5:((i:Int) == -1)=false:=by rw[beq_eq_false_iff_ne];omega
    exact .inr ⟨i+1,by simp[h5],by simp;omega,by simp[h]⟩
theorem cut_ways (s:ByteArray) (c:UInt8):(∃h:Hid (cutAt c (bl s)=(bl s,[],false)),Lib.indexByte s.data.toList c = -1) ∨
  ∃i:Nat,i<s.size∧Lib.indexByte s.data.toList c=i∧Hid (cutAt c (bl s)=(bl (s.extract 0 i),bl (s.extract (i+1) s.size),true)):=by
 rcases cutAt_byte c (bl s) with ⟨h1,h2⟩|⟨i,h1,h2,h3⟩
 ·exact .inl ⟨h2,h1⟩
 ·refine .inr ⟨i,h2,h1,?_⟩
  unfold Hid
  rw[h3,bl_extract,bl_extract,List.drop_zero,Nat.sub_zero,List.take_of_length_le (l:=(bl s).drop (i+1)) (by rw[List.length_drop,bl_len];omega)]
set_option maxHeartbeats 400000 in
theorem slCut_any (s:ByteArray) (c:UInt8) (w:World) (hs:s.size≤maxLen) :
  Calls Tryz.prog 296 #[.string s,.string ⟨#[c]⟩] w (CutPost s c w):=by
 unfold maxLen at hs
 rcases cut_ways s c with ⟨h,hi⟩|⟨i,hi,hx,h⟩
 ·have HI:=Lib.hid hi
  clear hi
  go_enter Tryz.func296,Tryz.ntmps296
  go_wp2_with fail
  refine(Tryz.stringslite_Index_one s c _).mono ?_
  rintro e w1 ⟨rfl,rfl⟩
  rw[HI.out]
  go_wp2
  go_ret3
  exact⟨s,⟨#[]⟩,false,rfl,h,Nat.le_refl _,Nat.zero_le _,Drawn.refl _⟩
 ·have HI:=Lib.hid hx
  clear hx
  have hsa:(s.extract 0 i).size≤s.size:=by rw[ByteArray.size_extract];omega
  have hsb:(s.extract (i+1) s.size).size≤s.size:=by rw[ByteArray.size_extract];omega
  go_enter Tryz.func296,Tryz.ntmps296
  go_wp2_with fail
  refine(Tryz.stringslite_Index_one s c _).mono ?_
  rintro e w1 ⟨rfl,rfl⟩
  rw[HI.out]
  go_wp2
  go_quiet (fail)
  go_wp2
  go_ret3
  exact⟨_,_,true,rfl,h,hsa,hsb,_,rfl⟩
set_option maxHeartbeats 400000 in
theorem cutAny (s:ByteArray) (c:UInt8) (w:World) (hs:s.size≤maxLen) :
  Calls Tryz.prog 222 #[.string s,.string ⟨#[c]⟩] w (CutPost s c w):=by
 go_enter Tryz.func222,Tryz.ntmps222
 go_wp2_with fail
 refine(slCut_any s c _ hs).mono ?_
 rintro e w1 ⟨a,b,f,rfl,h⟩
 go_wp2
 go_ret3
 exact⟨a,b,f,rfl,h⟩

theorem cut1 (s:ByteArray) (c:UInt8) (w:World) (E:Env w) (hs:s.size≤140737488351232) :
  Calls Tryz.prog 222 #[.string s,.string ⟨#[c]⟩] w fun e w'=>∃a b f,e=.returned (.tuple #[.string a,.string b,.bool f])∧Hid (cutAt c (bl s)=(bl a,bl b,f))∧a.size≤s.size∧b.size≤s.size∧Below w.heap.size w w' :=
 (cutAny s c w (by unfold maxLen;omega)).mono fun _ _ ⟨a,b,f,h1,h2,h3,h4,h5⟩=>⟨a,b,f,h1,h2,h3,h4,h5.below⟩


def shortB (l:List UInt8):Bool:=l.length == 2&&l.all nameC
theorem shortB_len {s:ByteArray} (h:¬s.size=2):shortB (bl s)=false:=by
 unfold shortB
 have:((bl s).length == 2)=false:=by rw[beq_eq_false_iff_ne];exact h
 rw[this];rfl
theorem shortB_of {s:ByteArray} (h:s.size=2):shortB (bl s)=(bl s).all nameC:=by
 unfold shortB
 have:((bl s).length == 2)=true:=by rw[beq_iff_eq];exact h
 rw[this];rfl
theorem nameC_ways (c:UInt8):(Hid (nameC c=true)∧((65≤(c.toNat:Int)∧(c.toNat:Int)≤90)∨((c.toNat:Int)<65∧48≤(c.toNat:Int)∧(c.toNat:Int)≤57))) ∨
  (Hid (nameC c=false)∧(((c.toNat:Int)<65∧(c.toNat:Int)<48)∨((c.toNat:Int)<65∧48≤(c.toNat:Int)∧57<(c.toNat:Int))∨(65≤(c.toNat:Int)∧90<(c.toNat:Int)∧48≤(c.toNat:Int)∧57<(c.toNat:Int)))):=by
 by_cases h:(65≤(c.toNat:Int)∧(c.toNat:Int)≤90)∨(48≤(c.toNat:Int)∧(c.toNat:Int)≤57)
 ·exact .inl ⟨nameC_yes h,by omega⟩
 ·exact .inr ⟨nameC_no (by omega) (by omega),by omega⟩
set_option maxHeartbeats 1000000 in
theorem short_any (s:ByteArray) (w:World) (hs:s.size≤maxLen) :
  Calls Tryz.prog 146 #[.string s] w fun e w'=>e=.returned (.bool (shortB (bl s)))∧w=w':=by
 unfold maxLen at hs
 by_cases h2:s.size=2
 ·have H2:=Lib.hid h2
  have e2:((s.size:Int) != 2)=false:=by rw[bne_eq_false_iff_eq];omega
  have b1:2≤s.size:=by omega
  have b2:s.size≤2:=by omega
  clear h2
  go_enter Tryz.func146,Tryz.ntmps146
  go_wp2
  go_loop [9] (fun i=>∃k:Nat,k≤s.size∧i=.int .i64 k∧Hid (((bl s).take k).all nameC=true)) (fun i=>s.size-(intOf i).toNat)
  case atStart=>exact⟨0,Nat.zero_le _,rfl,rfl⟩
  case round =>
   obtain⟨k,hk,rfl,hall⟩:=hrel
   by_cases h:k<s.size
   ·have hk2:(k:Int)<2:=by omega
    rcases nameC_ways s[k] with ⟨hn,hc⟩|⟨hn,hc⟩
    ·have HA:=Lib.hid (all_take_succ hall.out h hn.out)
     clear hn
     rcases hc with ⟨c1,c2⟩|⟨c1,c2,c3⟩
     all_goals
      go_wp2
      go_round
      case rel=>exact⟨k+1,h,by go_num,HA.out⟩
      case measure=>simp[intOf];omega
    ·have HF:Hid (shortB (bl s)=false):=by unfold Hid;rw[shortB_of H2.out,all_false_at (l:=bl s) (k:=k) h hn.out]
     clear hn
     rcases hc with ⟨c1,c2⟩|⟨c1,c2,c3⟩|⟨c1,c2,c3,c4⟩
     all_goals
      go_wp2
      go_ret
      exact⟨ret_bool HF.out.symm,rfl⟩
   ·have hk2:(2:Int)≤(k:Int):=by omega
    go_wp2
    go_ret
    exact⟨ret_bool (by rw[shortB_of H2.out,all_take_all hall.out (by rw[bl_len];omega)]),rfl⟩
 ·have e2:((s.size:Int) != 2)=true:=by rw[bne_iff_ne];omega
  have HF:=Lib.hid (shortB_len h2)
  clear h2
  go_enter Tryz.func146,Tryz.ntmps146
  go_wp2
  go_ret
  exact⟨ret_bool HF.out.symm,rfl⟩
set_option maxHeartbeats 1000000 in
theorem region_any (s:ByteArray) (w:World) (hs:s.size≤maxLen) :
  Calls Tryz.prog 204 #[.string s] w fun e w'=>e=.returned (.bool (shortB (bl s)))∧w=w':=by
 unfold maxLen at hs
 by_cases h2:s.size=2
 ·have H2:=Lib.hid h2
  have e2:((s.size:Int) != 2)=false:=by rw[bne_eq_false_iff_eq];omega
  have b1:2≤s.size:=by omega
  have b2:s.size≤2:=by omega
  clear h2
  go_enter Tryz.func204,Tryz.ntmps204
  go_wp2
  go_loop [3] (fun i=>∃k:Nat,k≤s.size∧i=.int .i64 k∧Hid (((bl s).take k).all nameC=true)) (fun i=>s.size-(intOf i).toNat)
  case atStart=>exact⟨0,Nat.zero_le _,rfl,rfl⟩
  case round =>
   obtain⟨k,hk,rfl,hall⟩:=hrel
   by_cases h:k<s.size
   ·have hk2:(k:Int)<2:=by omega
    rcases nameC_ways s[k] with ⟨hn,hc⟩|⟨hn,hc⟩
    ·have HA:=Lib.hid (all_take_succ hall.out h hn.out)
     clear hn
     rcases hc with ⟨c1,c2⟩|⟨c1,c2,c3⟩
     all_goals
      go_wp2
      go_round
      case rel=>exact⟨k+1,h,by go_num,HA.out⟩
      case measure=>simp[intOf];omega
    ·have HF:Hid (shortB (bl s)=false):=by unfold Hid;rw[shortB_of H2.out,all_false_at (l:=bl s) (k:=k) h hn.out]
     clear hn
     rcases hc with ⟨c1,c2⟩|⟨c1,c2,c3⟩|⟨c1,c2,c3,c4⟩
     all_goals
      go_wp2
      go_ret
      exact⟨ret_bool HF.out.symm,rfl⟩
   ·have hk2:(2:Int)≤(k:Int):=by omega
    go_wp2
    go_ret
    exact⟨ret_bool (by rw[shortB_of H2.out,all_take_all hall.out (by rw[bl_len];omega)]),rfl⟩
 ·have e2:((s.size:Int) != 2)=true:=by rw[bne_iff_ne];omega
  have HF:=Lib.hid (shortB_len h2)
  clear h2
  go_enter Tryz.func204,Tryz.ntmps204
  go_wp2
  go_ret
  exact⟨ret_bool HF.out.symm,rfl⟩

def refB (a b:List UInt8):Bool:=nameB a 6&&(nameB b 6 || shortB b)
def refErr (l:List UInt8):Int:=if (cutAt 47 l).2.2 then (if refB (cutAt 47 l).1 (cutAt 47 l).2.1 then 0 else 5) else 4
def refFst (l:List UInt8):List UInt8:=if refErr l=0 then (cutAt 47 l).1 else []
def refSnd (l:List UInt8):List UInt8:=if refErr l=0 then (cutAt 47 l).2.1 else []
def RefTPost (s:ByteArray) (w:World) (e:Ending) (w':World):Prop :=
 ∃a b,e=.returned (.tuple #[.string a,.string b,.int .i64 (refErr (bl s))])∧Hid (bl a=refFst (bl s))∧Hid (bl b=refSnd (bl s))∧a.size≤s.size∧b.size≤s.size∧Drawn w w'
theorem refErr_no {s:ByteArray} {x y:List UInt8} (h:cutAt 47 (bl s)=(x,y,false)):refErr (bl s)=4:=by unfold refErr;rw[h];rfl
theorem refErr_yes {s:ByteArray} {x y:List UInt8} (h:cutAt 47 (bl s)=(x,y,true)):refErr (bl s)=if refB x y then 0 else 5:=by unfold refErr;rw[h];rfl
theorem refTPost_bad {s:ByteArray} {w w':World} {n:Int} (h:refErr (bl s)=n) (h0:n≠0) (hd:Drawn w w'):RefTPost s w (.returned (.tuple #[.string ⟨#[]⟩,.string ⟨#[]⟩,.int .i64 n])) w':=by
 subst h
 refine⟨_,_,rfl,?_,?_,Nat.zero_le _,Nat.zero_le _,hd⟩
 ·unfold Hid refFst;rw[if_neg h0];rfl
 ·unfold Hid refSnd;rw[if_neg h0];rfl
theorem refTPost_ok {s a b:ByteArray} {w w':World} (h:cutAt 47 (bl s)=(bl a,bl b,true)) (hr:refB (bl a) (bl b)=true) (ha:a.size≤s.size) (hb:b.size≤s.size) (hd:Drawn w w'):RefTPost s w (.returned (.tuple #[.string a,.string b,.int .i64 0])) w':=by
 have h0:refErr (bl s)=0:=by rw[refErr_yes h,if_pos hr]
 refine⟨a,b,by rw[h0],?_,?_,ha,hb,hd⟩
 ·unfold Hid refFst;rw[if_pos h0,h]
 ·unfold Hid refSnd;rw[if_pos h0,h]
theorem refB_ways (a b:List UInt8):(nameB a 6=false∧Hid (refB a b=false))∨(nameB a 6=true∧((nameB b 6=true∧Hid (refB a b=true))∨(nameB b 6=false∧((shortB b=true∧Hid (refB a b=true))∨(shortB b=false∧Hid (refB a b=false)))))):=by
 unfold refB Hid
 cases nameB a 6 <;> cases nameB b 6 <;> cases shortB b <;> simp
set_option maxHeartbeats 1000000 in
theorem splitRef_any (s:ByteArray) (w:World) (hs:s.size≤maxLen) :
  Calls Tryz.prog 147 #[.string s] w (RefTPost s w):=by
 go_enter Tryz.func147,Tryz.ntmps147
 go_wp2_with fail
 refine(cutAny s 47 _ hs).mono ?_
 rintro e w1 ⟨a,b,f,rfl,hcut,has,hbs,hd⟩
 cases f
 ·go_wp2
  go_ret3
  exact refTPost_bad (refErr_no hcut.out) (by decide) hd
 ·go_wp2_with fail
  refine(name_any a 6 _ (Nat.le_trans has hs)).mono ?_
  rintro e w' ⟨rfl,rfl⟩
  rcases refB_ways (bl a) (bl b) with ⟨h1,hr⟩|⟨h1,⟨h2,hr⟩|⟨h2,⟨h3,hr⟩|⟨h3,hr⟩⟩⟩
  ·rw[h1]
   clear h1
   go_wp2
   go_ret3
   exact refTPost_bad (n:=5) (by rw[refErr_yes hcut.out,hr.out];rfl) (by decide) hd
  all_goals
   rw[h1]
   have H2:=Lib.hid h2
   clear h1 h2
   go_wp2_with fail
   refine(name_any b 6 _ (Nat.le_trans hbs hs)).mono ?_
   rintro e w' ⟨rfl,rfl⟩
   rw[H2.out]
  ·go_wp2
   go_ret3
   exact refTPost_ok hcut.out hr.out has hbs hd
  all_goals
   have H3:=Lib.hid h3
   clear h3
   go_wp2_with fail
   refine(short_any b _ (Nat.le_trans hbs hs)).mono ?_
   rintro e w' ⟨rfl,rfl⟩
   rw[H3.out]
  ·go_wp2
   go_ret3
   exact refTPost_ok hcut.out hr.out has hbs hd
  ·go_wp2
   go_ret3
   exact refTPost_bad (n:=5) (by rw[refErr_yes hcut.out,hr.out];rfl) (by decide) hd
theorem cutHere {s:ByteArray} {j:Nat} (c:UInt8) (hj:j<s.size) (h:s[j]=c) (hn:c ∉ (bl s).take j):cutAt c (bl s)=(bl (s.extract 0 j),bl (s.extract (j+1) s.size),true):=by
 rcases cut_ways s c with ⟨h1,_⟩|⟨i,hi,_,h1⟩
 ·exfalso
  have hm:c∈bl s:=by rw[←h];exact List.getElem_mem (l:=bl s) (n:=j) hj
  rcases cutAt_byte c (bl s) with ⟨h2,_⟩|⟨i,_,_,h3⟩
  ·obtain⟨k,hk,hk2⟩:=List.getElem_of_mem hm
   exact Lib.indexByte_none h2 k (by rw[List.getElem?_eq_getElem hk,hk2])
  ·rw[h1.out] at h3;simp at h3
 ·rcases cutAt_byte c (bl s) with ⟨_,h3⟩|⟨k,h2,hk,h3⟩
  ·rw[h1.out] at h3;simp at h3
  ·obtain⟨k1,k2⟩:=Lib.indexByte_some h2
   have hkj:k=j:=by
    rcases Nat.lt_trichotomy k j with hlt|heq|hgt
    ·exfalso
     apply hn
     have:((bl s).take j)[k]? = some c:=by rw[List.getElem?_take,if_pos hlt];exact k1
     exact List.mem_of_getElem? this
    ·exact heq
    ·exact absurd (by rw[bl_get? s j hj,h]) (k2 j hgt)
   subst hkj
   rw[h3,bl_extract,bl_extract,List.drop_zero,Nat.sub_zero,List.take_of_length_le (l:=(bl s).drop (k+1)) (by rw[List.length_drop,bl_len];omega)]
theorem cutNone {s:ByteArray} {j:Nat} (c:UInt8) (hj:s.size≤j) (hn:c ∉ (bl s).take j):cutAt c (bl s)=(bl s,[],false):=by
 rw[List.take_of_length_le (by rw[bl_len];exact hj)] at hn
 rcases cutAt_byte c (bl s) with ⟨_,h3⟩|⟨k,h2,hk,h3⟩
 ·exact h3
 ·exact absurd (List.mem_of_getElem? (Lib.indexByte_some h2).1) hn
theorem notinMore {s:ByteArray} {j:Nat} {c:UInt8} (hj:j<s.size) (h:s[j]≠c) (hn:c ∉ (bl s).take j):c ∉ (bl s).take (j+1):=by
 rw[List.take_succ_eq_append_getElem (show j<(bl s).length from hj),List.mem_append,List.mem_singleton]
 rintro(e|e)
 ·exact hn e
 ·exact h e.symm
set_option maxHeartbeats 1000000 in
theorem rsplitRef_any (s:ByteArray) (w:World) (hs:s.size≤maxLen) :
  Calls Tryz.prog 136 #[.string s] w (RefTPost s w):=by
 have hs':=hs
 unfold maxLen at hs
 go_enter Tryz.func136,Tryz.ntmps136
 go_wp2
 go_loop [5] (fun i=>∃j:Nat,j≤s.size∧i=.int .i64 j∧Hid ((47:UInt8) ∉ (bl s).take j)) (fun i=>s.size-(intOf i).toNat)
 case atStart=>exact⟨0,Nat.zero_le _,rfl,by unfold Hid;simp⟩
 case round =>
  obtain⟨j,hj,rfl,hno⟩:=hrel
  by_cases hjs:j<s.size
  ·by_cases h47:(s[j].toNat:Int)=47
   ·have e47:((s[j].toNat:Int) == 47)=true:=beq_iff_eq.2 h47
    have hcut:=Lib.hid (cutHere 47 hjs ((u8_eq (n:=47) (by omega)).1 (by omega)) hno.out)
    have has:(s.extract 0 j).size≤s.size:=by rw[ByteArray.size_extract];omega
    have hbs:(s.extract (j+1) s.size).size≤s.size:=by rw[ByteArray.size_extract];omega
    clear h47
    go_wp2
    go_quiet (fail)
    obtain⟨a,ha⟩:∃a,s.extract 0 j=a:=⟨_,rfl⟩
    obtain⟨b,hb⟩:∃b,s.extract (j+1) s.size=b:=⟨_,rfl⟩
    rw[ha] at hcut has ⊢
    rw[hb] at hcut hbs ⊢
    clear ha hb
    have hd:Drawn w (w.drewN nq):=⟨nq,rfl⟩
    go_wp2_with fail
    refine(rname_any a 6 _ (Nat.le_trans has hs')).mono ?_
    rintro e w' ⟨rfl,rfl⟩
    rcases refB_ways (bl a) (bl b) with ⟨h1,hr⟩|⟨h1,⟨h2,hr⟩|⟨h2,⟨h3,hr⟩|⟨h3,hr⟩⟩⟩
    ·rw[h1]
     clear h1
     go_wp2
     go_ret3
     exact refTPost_bad (n:=5) (by rw[refErr_yes hcut.out,hr.out];rfl) (by decide) hd
    all_goals
     rw[h1]
     have H2:=Lib.hid h2
     clear h1 h2
     go_wp2_with fail
     refine(rname_any b 6 _ (Nat.le_trans hbs hs')).mono ?_
     rintro e w' ⟨rfl,rfl⟩
     rw[H2.out]
    ·go_wp2
     go_ret3
     exact refTPost_ok hcut.out hr.out has hbs hd
    all_goals
     have H3:=Lib.hid h3
     clear h3
     go_wp2_with fail
     refine(region_any b _ (Nat.le_trans hbs hs')).mono ?_
     rintro e w' ⟨rfl,rfl⟩
     rw[H3.out]
    ·go_wp2
     go_ret3
     exact refTPost_ok hcut.out hr.out has hbs hd
    ·go_wp2
     go_ret3
     exact refTPost_bad (n:=5) (by rw[refErr_yes hcut.out,hr.out];rfl) (by decide) hd
   ·have e47:((s[j].toNat:Int) == 47)=false:=beq_eq_false_iff_ne.2 h47
    have HN2:=Lib.hid (notinMore (c:=47) hjs (fun e=>h47 (by rw[e];rfl)) hno.out)
    clear h47
    go_wp2
    go_round
    case rel=>exact⟨j+1,hjs,by go_num,HN2.out⟩
    case measure=>simp[intOf];omega
  ·have hcut:=Lib.hid (cutNone 47 (by omega) hno.out)
   go_wp2
   go_ret3
   exact refTPost_bad (refErr_no hcut.out) (by decide) (Drawn.refl _)

def digFrom (a:Nat) (l:List UInt8):Nat:=l.foldl (fun a c=>10*a+(c.toNat-48)) a
def digVal (l:List UInt8):Nat:=digFrom 0 l
def pairB (l:List UInt8):Bool:=l.length == 2&&l.all digitB && !(l == [48,48])
def altSpec (l:List UInt8):Option Int :=
 if plainB (cutAt 46 (if headIs 45 l then l.tail else l)).1&&(!(cutAt 46 (if headIs 45 l then l.tail else l)).2.2 || pairB (cutAt 46 (if headIs 45 l then l.tail else l)).2.1) then
  if headIs 45 l then
   (if digVal (cutAt 46 (if headIs 45 l then l.tail else l)).1*100+(if (cutAt 46 (if headIs 45 l then l.tail else l)).2.2 then digVal (cutAt 46 (if headIs 45 l then l.tail else l)).2.1 else 0)=0 then none
   else some (-((digVal (cutAt 46 (if headIs 45 l then l.tail else l)).1*100+(if (cutAt 46 (if headIs 45 l then l.tail else l)).2.2 then digVal (cutAt 46 (if headIs 45 l then l.tail else l)).2.1 else 0):Nat):Int)))
  else some ((digVal (cutAt 46 (if headIs 45 l then l.tail else l)).1*100+(if (cutAt 46 (if headIs 45 l then l.tail else l)).2.2 then digVal (cutAt 46 (if headIs 45 l then l.tail else l)).2.1 else 0):Nat):Int)
 else none

theorem cutAt_spec (c:UInt8) (l:List UInt8):((cutAt c l).2.2=true∧l=(cutAt c l).1++c::(cutAt c l).2.1∧c ∉ (cutAt c l).1)∨((cutAt c l).2.2=false∧c ∉ l∧(cutAt c l).1=l∧(cutAt c l).2.1=[]):=by
 induction l with
 | nil=>exact .inr ⟨rfl,by simp,rfl,rfl⟩
 | cons x l ih =>
  unfold cutAt
  by_cases h:x=c
  ·subst h
   rw[if_pos rfl]
   exact .inl ⟨rfl,rfl,by simp⟩
  ·rw[if_neg h]
   rcases ih with ⟨h1,h2,h3⟩|⟨h1,h2,h3,h4⟩
   ·exact .inl ⟨h1,by simp only[List.cons_append,List.cons.injEq,true_and];exact h2,by simp only[List.mem_cons,not_or];exact⟨Ne.symm h,h3⟩⟩
   ·exact .inr ⟨h1,by simp only[List.mem_cons,not_or];exact⟨Ne.symm h,h2⟩,by simp only[h3],h4⟩
theorem first_unique {c:UInt8} {b y:List UInt8}:∀{a x:List UInt8},a++c::b=x++c::y→c ∉ a→c ∉ x→a=x∧b=y
 | [],[],h,_,_=>by simpa using h
 | [],z::x,h,_,hx=>by
  simp only[List.nil_append,List.cons_append,List.cons.injEq] at h
  exact absurd (by rw[h.1];simp) hx
 | z::a,[],h,ha,_=>by
  simp only[List.nil_append,List.cons_append,List.cons.injEq] at h
  exact absurd (by rw[h.1];simp) ha
 | z::a,u::x,h,ha,hx=>by
  simp only[List.cons_append,List.cons.injEq] at h
  simp only[List.mem_cons,not_or] at ha hx
  obtain⟨h1,h2⟩:=first_unique h.2 ha.2 hx.2
  exact⟨by rw[h.1,h1],h2⟩

def winOf (l:List UInt8) (a b:List UInt8) (two:Bool):Option (Int × Int) :=
 if two then (match altSpec a,altSpec b with|some x,some y=>some (x,y)|_,_=>none)
 else if lastIs 43 l then (altSpec l.dropLast).map fun x=>(x,6000000)
 else if lastIs 45 l then (altSpec l.dropLast).map fun x=>(-200000,x)
 else (altSpec l).map fun x=>(x,x)
def winSpec (l:List UInt8):Option (Int × Int) :=
 if l=[45] then some (-200000,6000000) else winOf l (cutAt 58 l).1 (cutAt 58 l).2.1 (cutAt 58 l).2.2
def Near (n v:Int):Prop:=rangedB n=rangedB v∧(rangedB v=true→n=v)
theorem Near.refl (n:Int):Near n n:=⟨rfl,fun _=>rfl⟩
def pwLo (l:List UInt8) (o:Option (Int × Int)):Int:=match o with
 | some (a,b)=>if rangedB a&&rangedB b&&decide (a≤b)&&(winOut a b == l) then a else 0
 | none=>0
def pwHi (l:List UInt8) (o:Option (Int × Int)):Int:=match o with
 | some (a,b)=>if rangedB a&&rangedB b&&decide (a≤b)&&(winOut a b == l) then b else 0
 | none=>0
def pwErr (l:List UInt8) (o:Option (Int × Int)):Int:=match o with
 | some (a,b)=>if rangedB a&&rangedB b then (if a≤b then (if winOut a b == l then 0 else 4) else 9) else 2
 | none=>4
end Go.Proofs.YtgmehlgfilpleaaGreatDoor
