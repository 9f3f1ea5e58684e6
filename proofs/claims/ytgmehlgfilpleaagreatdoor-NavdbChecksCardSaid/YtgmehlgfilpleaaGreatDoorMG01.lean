/-
  Several texts as one.
-/
import Derived.Test.YtgmehlgfilpleaaGreatDoorBase
import Derived.Lib.SliceRun
import Derived.Deep.LoopGhost
namespace Go.Proofs.YtgmehlgfilpleaaGreatDoor
open Go.RowKit
set_option linter.unusedVariables false
set_option linter.unusedSimpArgs false

def digitB (c:UInt8):Bool:=decide (48≤c.toNat)&&decide (c.toNat≤57)
def upperB (c:UInt8):Bool:=decide (65≤c.toNat)&&decide (c.toNat≤90)
def nameC (c:UInt8):Bool:=upperB c || digitB c
def zeroAhead (l:List UInt8):Bool:=decide (1<l.length)&&l.headD 0 == 48
def plainB (l:List UInt8):Bool := !l.isEmpty && !zeroAhead l&&l.all digitB
def nameB (l:List UInt8) (most:Int):Bool:=decide (0<l.length)&&decide ((l.length:Int)≤most)&&upperB (l.headD 0)&&l.all nameC
def rangedB (a:Int):Bool:=decide (-200000≤a)&&decide (a≤6000000)

theorem zeroAhead_yes {s:ByteArray} (h1:1<s.size) (h:s[0].toNat=48):zeroAhead (bl s)=true:=by
 unfold zeroAhead
 rw[bl_head s (by omega),bl_len,(u8_eq (n:=48) (by omega)).1 h];simp[h1]
theorem zeroAhead_no {s:ByteArray} (h1:1<s.size) (h:¬s[0].toNat=48):zeroAhead (bl s)=false:=by
 unfold zeroAhead
 rw[bl_head s (by omega)]
 have:(s[0] == 48)=false:=by
  rw[beq_eq_false_iff_ne];intro e;apply h;rw[e];rfl
 rw[this];simp
theorem zeroAhead_short {s:ByteArray} (h1:s.size≤1):zeroAhead (bl s)=false:=by
 unfold zeroAhead
 rw[bl_len,decide_eq_false (by omega)];rfl
theorem plainB_of {s:ByteArray} (h0:0<s.size) (h:zeroAhead (bl s)=false):plainB (bl s)=(bl s).all digitB:=by
 unfold plainB
 have:(bl s).isEmpty=false:=by
  rw[←Bool.not_eq_true,List.isEmpty_iff];intro e;have:=bl_nil_iff.1 e;omega
 rw[this,h];rfl
theorem plainB_zero {s:ByteArray} (h:zeroAhead (bl s)=true):plainB (bl s)=false:=by
 unfold plainB;rw[h];simp
theorem plainB_nil {s:ByteArray} (h:s.size=0):plainB (bl s)=false:=by rw[bl_nil h];rfl
theorem digitB_no {c:UInt8} (h:(c.toNat:Int)<48∨57<(c.toNat:Int)):digitB c=false:=by
 unfold digitB;rcases h with h|h
 ·rw[decide_eq_false (by omega)];rfl
 ·rw[decide_eq_false (p:=c.toNat≤57) (by omega),Bool.and_false]
theorem digitB_yes {c:UInt8} (h1:48≤(c.toNat:Int)) (h2:(c.toNat:Int)≤57):digitB c=true:=by
 unfold digitB;rw[decide_eq_true (by omega),decide_eq_true (by omega)];rfl
theorem upperB_no {c:UInt8} (h:(c.toNat:Int)<65∨90<(c.toNat:Int)):upperB c=false:=by
 unfold upperB;rcases h with h|h
 ·rw[decide_eq_false (by omega)];rfl
 ·rw[decide_eq_false (p:=c.toNat≤90) (by omega),Bool.and_false]
theorem upperB_yes {c:UInt8} (h1:65≤(c.toNat:Int)) (h2:(c.toNat:Int)≤90):upperB c=true:=by
 unfold upperB;rw[decide_eq_true (by omega),decide_eq_true (by omega)];rfl
theorem plain_no {s:ByteArray} {k:Nat} (HP:plainB (bl s)=(bl s).all digitB) (hk:k<s.size) (h:(s[k].toNat:Int)<48∨57<(s[k].toNat:Int)):false=plainB (bl s):=by
 rw[HP,all_false_at (l:=bl s) (k:=k) hk (digitB_no h)]
theorem plain_yes {s:ByteArray} {k:Nat} (HP:plainB (bl s)=(bl s).all digitB) (hk:¬k<s.size) (h:((bl s).take k).all digitB=true):true=plainB (bl s):=by
 rw[HP,all_take_all h (by rw[bl_len];omega)]

set_option maxHeartbeats 400000 in
theorem plain_zero (s:ByteArray) (w:World) (hs:s.size≤maxLen) (h1:1<s.size) (h:s[0].toNat=48) :
  Calls Tryz.prog 363 #[.string s] w fun e w'=>e=.returned (.bool false)∧w=w':=by
 unfold maxLen at hs
 have hb:((s.size:Int) == 0)=false:=by simp only[beq_eq_false_iff_ne,ne_eq];omega
 have hd:((s[0].toNat:Int) == 48)=true:=by rw[beq_iff_eq];omega
 clear h
 go_enter Tryz.func363,Tryz.ntmps363
 go_wp2
 go_ret
 exact⟨rfl,rfl⟩
set_option maxHeartbeats 400000 in
theorem plain_nil (s:ByteArray) (w:World) (hb:((s.size:Int) == 0)=true) :
  Calls Tryz.prog 363 #[.string s] w fun e w'=>e=.returned (.bool false)∧w=w':=by
 go_enter Tryz.func363,Tryz.ntmps363
 go_wp2
 go_ret
 exact⟨rfl,rfl⟩
set_option maxHeartbeats 400000 in
theorem plain_loop (s:ByteArray) (w:World) (hs:s.size≤maxLen) (h0:0<s.size) (hz:Hid (zeroAhead (bl s)=false)) (hd:∀h:1<s.size,Hid (((s[0].toNat:Int) == 48)=false)) :
  Calls Tryz.prog 363 #[.string s] w fun e w'=>e=.returned (.bool (plainB (bl s)))∧w=w':=by
 unfold maxLen at hs
 have HP:=Lib.hid (plainB_of h0 hz.out)
 have hb:((s.size:Int) == 0)=false:=by simp only[beq_eq_false_iff_ne,ne_eq];omega
 have hd2:(∃h:1<s.size,((s[0].toNat:Int) == 48)=false)∨s.size≤1:=by
  by_cases h1:1<s.size
  ·exact .inl ⟨h1,(hd h1).out⟩
  ·exact .inr (by omega)
 clear hd
 rcases hd2 with ⟨h1,hd⟩|h1
 all_goals
  go_enter Tryz.func363,Tryz.ntmps363
  go_wp2
  go_loop [19] (fun i=>∃k:Nat,k≤s.size∧i=.int .i64 k∧Hid (((bl s).take k).all digitB=true)) (fun i=>s.size-(intOf i).toNat)
  case atStart=>exact⟨0,Nat.zero_le _,rfl,rfl⟩
  case round =>
   obtain⟨k,hk,rfl,hall⟩:=hrel
   go_wp2
   ·go_ret
    exact⟨ret_bool (plain_no HP.out ‹_› ‹_∨_›),rfl⟩
   ·have h:k<s.size:=by assumption
    go_round
    case rel=>exact⟨k+1,h,by go_num,all_take_succ hall.out h (digitB_yes (‹_∧_›).1 (‹_∧_›).2)⟩
    case measure=>simp[intOf];omega
   ·go_ret
    exact⟨ret_bool (plain_no HP.out ‹_› (.inl ‹_›)),rfl⟩
   ·go_ret
    exact⟨ret_bool (plain_yes HP.out ‹_› hall.out),rfl⟩
theorem plain_any (s:ByteArray) (w:World) (hs:s.size≤maxLen) :
  Calls Tryz.prog 363 #[.string s] w fun e w'=>e=.returned (.bool (plainB (bl s)))∧w=w':=by
 rcases Nat.eq_zero_or_pos s.size with h0|h0
 ·rw[plainB_nil h0];exact plain_nil s w (by rw[beq_iff_eq];omega)
 ·by_cases h1:1<s.size
  ·by_cases h:s[0].toNat=48
   ·rw[plainB_zero (zeroAhead_yes h1 h)];exact plain_zero s w hs h1 h
   ·exact plain_loop s w hs h0 (zeroAhead_no h1 h) (fun _=>by show(_ == _)=false;rw[beq_eq_false_iff_ne];omega)
  ·exact plain_loop s w hs h0 (zeroAhead_short (by omega)) (fun h=>absurd h h1)

theorem nameC_yes {c:UInt8} (h:(65≤(c.toNat:Int)∧(c.toNat:Int)≤90)∨(48≤(c.toNat:Int)∧(c.toNat:Int)≤57)):nameC c=true:=by
 unfold nameC;rcases h with h|h
 ·rw[upperB_yes h.1 h.2];rfl
 ·rw[digitB_yes h.1 h.2,Bool.or_true]
theorem nameC_no {c:UInt8} (h:(c.toNat:Int)<65∨90<(c.toNat:Int)) (h':(c.toNat:Int)<48∨57<(c.toNat:Int)):nameC c=false:=by
 unfold nameC;rw[upperB_no h,digitB_no h'];rfl
theorem nameB_nil {s:ByteArray} {m:Int} (h:s.size=0):nameB (bl s) m=false:=by rw[bl_nil h];rfl
theorem nameB_long {s:ByteArray} {m:Int} (h:m<s.size):nameB (bl s) m=false:=by
 unfold nameB;rw[bl_len,decide_eq_false (p:=(s.size:Int)≤m) (by omega)];simp
theorem nameB_head {s:ByteArray} {m:Int} (h0:0<s.size) (h:(s[0].toNat:Int)<65∨90<(s[0].toNat:Int)):nameB (bl s) m=false:=by
 unfold nameB;rw[bl_head s h0,upperB_no h];simp
theorem nameB_of {s:ByteArray} {m:Int} (h0:0<s.size) (hm:(s.size:Int)≤m) (h1:65≤(s[0].toNat:Int)) (h2:(s[0].toNat:Int)≤90):nameB (bl s) m=(bl s).all nameC:=by
 unfold nameB;rw[bl_head s h0,upperB_yes h1 h2,bl_len,decide_eq_true h0,decide_eq_true hm];rfl
theorem name_no {s:ByteArray} {k:Nat} {m:Int} (HP:nameB (bl s) m=(bl s).all nameC) (hk:k<s.size) (h:(s[k].toNat:Int)<65∨90<(s[k].toNat:Int)) (h':(s[k].toNat:Int)<48∨57<(s[k].toNat:Int)):false=nameB (bl s) m:=by
 rw[HP,all_false_at (l:=bl s) (k:=k) hk (nameC_no h h')]
theorem name_yes {s:ByteArray} {k:Nat} {m:Int} (HP:nameB (bl s) m=(bl s).all nameC) (hk:¬k<s.size) (h:((bl s).take k).all nameC=true):true=nameB (bl s) m:=by
 rw[HP,all_take_all h (by rw[bl_len];omega)]

set_option maxHeartbeats 400000 in
theorem name_short (s:ByteArray) (m:Int) (w:World) (hs:s.size≤maxLen) (h0:s.size=0∨m<s.size) :
  Calls Tryz.prog 68 #[.string s,.int .i64 m] w fun e w'=>e=.returned (.bool false)∧w=w':=by
 unfold maxLen at hs
 have h:((s.size:Int) == 0)=true∧(s.size:Int)<1∨(((s.size:Int) == 0)=false∧1≤(s.size:Int))∧m<s.size:=by
  rcases Nat.eq_zero_or_pos s.size with h|h
  ·exact .inl ⟨by rw[beq_iff_eq];omega,by omega⟩
  ·exact .inr ⟨⟨by rw[beq_eq_false_iff_ne];omega,by omega⟩,by omega⟩
 clear h0
 rcases h with ⟨h,hl⟩|⟨⟨h,hl⟩,hm⟩
 all_goals
  go_enter Tryz.func68,Tryz.ntmps68
  go_wp2
  go_ret
  exact⟨rfl,rfl⟩
set_option maxHeartbeats 400000 in
theorem name_head (s:ByteArray) (m:Int) (w:World) (hs:s.size≤maxLen) (h0:0<s.size) (hm:(s.size:Int)≤m) (h:(s[0].toNat:Int)<65∨90<(s[0].toNat:Int)) :
  Calls Tryz.prog 68 #[.string s,.int .i64 m] w fun e w'=>e=.returned (.bool false)∧w=w':=by
 unfold maxLen at hs
 have hb:((s.size:Int) == 0)=false:=by rw[beq_eq_false_iff_ne];omega
 have hl:1≤(s.size:Int):=by omega
 have h':(s[0].toNat:Int)<65∨65≤(s[0].toNat:Int)∧90<(s[0].toNat:Int):=by omega
 clear h
 rcases h' with h|⟨h,h2⟩
 all_goals
  go_enter Tryz.func68,Tryz.ntmps68
  go_wp2
  go_ret
  exact⟨rfl,rfl⟩
set_option maxHeartbeats 1000000 in
theorem name_loop (s:ByteArray) (m:Int) (w:World) (hs:s.size≤maxLen) (h0:0<s.size) (hm:(s.size:Int)≤m) (h1:65≤(s[0].toNat:Int)) (h2:(s[0].toNat:Int)≤90) :
  Calls Tryz.prog 68 #[.string s,.int .i64 m] w fun e w'=>e=.returned (.bool (nameB (bl s) m))∧w=w':=by
 have HP:=Lib.hid (nameB_of h0 hm h1 h2)
 unfold maxLen at hs
 have hb:((s.size:Int) == 0)=false:=by rw[beq_eq_false_iff_ne];omega
 have hl:1≤(s.size:Int):=by omega
 go_enter Tryz.func68,Tryz.ntmps68
 go_wp2
 clear h1 h2
 go_loop [27] (fun i=>∃k:Nat,k≤s.size∧i=.int .i64 k∧Hid (((bl s).take k).all nameC=true)) (fun i=>s.size-(intOf i).toNat)
 case atStart=>exact⟨0,Nat.zero_le _,rfl,rfl⟩
 case round =>
  obtain⟨k,hk,rfl,hall⟩:=hrel
  by_cases h:k<s.size
  ·have hc:((65≤(s[k].toNat:Int)∧(s[k].toNat:Int)≤90)∨((s[k].toNat:Int)<65∧48≤(s[k].toNat:Int)∧(s[k].toNat:Int)≤57))∨((s[k].toNat:Int)<48∨(90<(s[k].toNat:Int))∨(57<(s[k].toNat:Int)∧(s[k].toNat:Int)<65)):=by omega
   rcases hc with (⟨c1,c2⟩|⟨c0,c1,c2⟩)|(c1|c1|⟨c1,c2⟩)
   ·go_wp2
    go_round
    case rel=>exact⟨k+1,h,by go_num,all_take_succ hall.out h (nameC_yes (.inl ⟨c1,c2⟩))⟩
    case measure=>simp[intOf];omega
   ·go_wp2
    go_round
    case rel=>exact⟨k+1,h,by go_num,all_take_succ hall.out h (nameC_yes (.inr ⟨c1,c2⟩))⟩
    case measure=>simp[intOf];omega
   all_goals
    go_wp2
    go_ret
    exact⟨ret_bool (name_no HP.out h (by omega) (by omega)),rfl⟩
  ·go_wp2
   go_ret
   exact⟨ret_bool (name_yes HP.out h hall.out),rfl⟩
theorem name_any (s:ByteArray) (m:Int) (w:World) (hs:s.size≤maxLen) :
  Calls Tryz.prog 68 #[.string s,.int .i64 m] w fun e w'=>e=.returned (.bool (nameB (bl s) m))∧w=w':=by
 by_cases h0:s.size=0
 ·rw[nameB_nil h0];exact name_short s m w hs (.inl h0)
 ·by_cases hm:m<s.size
  ·rw[nameB_long hm];exact name_short s m w hs (.inr hm)
  ·by_cases h:(s[0].toNat:Int)<65∨90<(s[0].toNat:Int)
   ·rw[nameB_head (by omega) h];exact name_head s m w hs (by omega) (by omega) h
   ·exact name_loop s m w hs (by omega) (by omega) (by omega) (by omega)
set_option maxHeartbeats 400000 in
theorem rname_short (s:ByteArray) (m:Int) (w:World) (hs:s.size≤maxLen) (h0:s.size=0∨m<s.size) :
  Calls Tryz.prog 125 #[.string s,.int .i64 m] w fun e w'=>e=.returned (.bool false)∧w=w':=by
 unfold maxLen at hs
 have h:((s.size:Int) == 0)=true∧(s.size:Int)<1∨(((s.size:Int) == 0)=false∧1≤(s.size:Int))∧m<s.size:=by
  rcases Nat.eq_zero_or_pos s.size with h|h
  ·exact .inl ⟨by rw[beq_iff_eq];omega,by omega⟩
  ·exact .inr ⟨⟨by rw[beq_eq_false_iff_ne];omega,by omega⟩,by omega⟩
 clear h0
 rcases h with ⟨h,hl⟩|⟨⟨h,hl⟩,hm⟩
 all_goals
  go_enter Tryz.func125,Tryz.ntmps125
  go_wp2
  go_ret
  exact⟨rfl,rfl⟩
set_option maxHeartbeats 400000 in
theorem rname_head (s:ByteArray) (m:Int) (w:World) (hs:s.size≤maxLen) (h0:0<s.size) (hm:(s.size:Int)≤m) (h:(s[0].toNat:Int)<65∨90<(s[0].toNat:Int)) :
  Calls Tryz.prog 125 #[.string s,.int .i64 m] w fun e w'=>e=.returned (.bool false)∧w=w':=by
 unfold maxLen at hs
 have hb:((s.size:Int) == 0)=false:=by rw[beq_eq_false_iff_ne];omega
 have hl:1≤(s.size:Int):=by omega
 have h':(s[0].toNat:Int)<65∨65≤(s[0].toNat:Int)∧90<(s[0].toNat:Int):=by omega
 clear h
 rcases h' with h|⟨h,h2⟩
 all_goals
  go_enter Tryz.func125,Tryz.ntmps125
  go_wp2
  go_ret
  exact⟨rfl,rfl⟩
set_option maxHeartbeats 1000000 in
theorem rname_loop (s:ByteArray) (m:Int) (w:World) (hs:s.size≤maxLen) (h0:0<s.size) (hm:(s.size:Int)≤m) (h1:65≤(s[0].toNat:Int)) (h2:(s[0].toNat:Int)≤90) :
  Calls Tryz.prog 125 #[.string s,.int .i64 m] w fun e w'=>e=.returned (.bool (nameB (bl s) m))∧w=w':=by
 have HP:=Lib.hid (nameB_of h0 hm h1 h2)
 unfold maxLen at hs
 have hb:((s.size:Int) == 0)=false:=by rw[beq_eq_false_iff_ne];omega
 have hl:1≤(s.size:Int):=by omega
 go_enter Tryz.func125,Tryz.ntmps125
 go_wp2
 clear h1 h2
 go_loop [5] (fun i=>∃k:Nat,k≤s.size∧i=.int .i64 k∧Hid (((bl s).take k).all nameC=true)) (fun i=>s.size-(intOf i).toNat)
 case atStart=>exact⟨0,Nat.zero_le _,rfl,rfl⟩
 case round =>
  obtain⟨k,hk,rfl,hall⟩:=hrel
  by_cases h:k<s.size
  ·have hc:((65≤(s[k].toNat:Int)∧(s[k].toNat:Int)≤90)∨((s[k].toNat:Int)<65∧48≤(s[k].toNat:Int)∧(s[k].toNat:Int)≤57))∨((s[k].toNat:Int)<48∨(90<(s[k].toNat:Int))∨(57<(s[k].toNat:Int)∧(s[k].toNat:Int)<65)):=by omega
   rcases hc with (⟨c1,c2⟩|⟨c0,c1,c2⟩)|(c1|c1|⟨c1,c2⟩)
   ·go_wp2
    go_round
    case rel=>exact⟨k+1,h,by go_num,all_take_succ hall.out h (nameC_yes (.inl ⟨c1,c2⟩))⟩
    case measure=>simp[intOf];omega
   ·go_wp2
    go_round
    case rel=>exact⟨k+1,h,by go_num,all_take_succ hall.out h (nameC_yes (.inr ⟨c1,c2⟩))⟩
    case measure=>simp[intOf];omega
   all_goals
    go_wp2
    go_ret
    exact⟨ret_bool (name_no HP.out h (by omega) (by omega)),rfl⟩
  ·go_wp2
   go_ret
   exact⟨ret_bool (name_yes HP.out h hall.out),rfl⟩
theorem rname_any (s:ByteArray) (m:Int) (w:World) (hs:s.size≤maxLen) :
  Calls Tryz.prog 125 #[.string s,.int .i64 m] w fun e w'=>e=.returned (.bool (nameB (bl s) m))∧w=w':=by
 by_cases h0:s.size=0
 ·rw[nameB_nil h0];exact rname_short s m w hs (.inl h0)
 ·by_cases hm:m<s.size
  ·rw[nameB_long hm];exact rname_short s m w hs (.inr hm)
  ·by_cases h:(s[0].toNat:Int)<65∨90<(s[0].toNat:Int)
   ·rw[nameB_head (by omega) h];exact rname_head s m w hs (by omega) (by omega) h
   ·exact rname_loop s m w hs (by omega) (by omega) (by omega) (by omega)

structure Fx where
 id:List UInt8
 rg:List UInt8
 kd:Nat
 lat:Int
 lon:Int
 el:Int
 ra:Int
def fxc (f:Fx):List Value:=[.string (sb f.id),.string (sb f.rg),.int .u8 (f.kd:Int),.int .i64 f.lat,.int .i64 f.lon,.int .i64 f.el,.int .i64 f.ra]
def fxcells (l:List Fx):List Value:=l.flatMap fxc
def fx0:Fx:=⟨[],[],0,0,0,0,0⟩
def fxRef (f:Fx):List UInt8:=f.id++47::f.rg
theorem blkCell' {w:World} {g:Nat} {cs:Array Value} {T:TypeId} (h:w.heap[g]? = some (.cells cs T (0,0))) (j:Nat) {u:Value} (hu:cs[j]? = some u):w.cell? ⟨g,j,none⟩=some u:=by rw[Lib.cell_of_heap h];exact hu
theorem lt_heap {w:World} {b:Nat} {o:Obj} (h:w.heap[b]? = some o):b<w.heap.size:=(Array.getElem?_eq_some_iff.1 h).1
def FxBox (w:World) (b:Nat) (f:Fx):Prop:=w.heap[b]? = some (.cells #[.string (sb f.id),.string (sb f.rg),.int .u8 (f.kd:Int),.int .i64 f.lat,.int .i64 f.lon,.int .i64 f.el,.int .i64 f.ra] 38 (0,0))
structure FxCells (w:World) (b:Nat) (a c:ByteArray) (k:Nat) (lat lon el ra:Int):Prop where
 c0:w.cell? ⟨b,0,none⟩=some (.string a)
 c1:w.cell? ⟨b,1,none⟩=some (.string c)
 c2:w.cell? ⟨b,2,none⟩=some (.int .u8 (k:Int))
 c3:w.cell? ⟨b,3,none⟩=some (.int .i64 lat)
 c4:w.cell? ⟨b,4,none⟩=some (.int .i64 lon)
 c5:w.cell? ⟨b,5,none⟩=some (.int .i64 el)
 c6:w.cell? ⟨b,6,none⟩=some (.int .i64 ra)
theorem FxBox.cells {w:World} {b:Nat} {f:Fx} (h:FxBox w b f):FxCells w b (sb f.id) (sb f.rg) f.kd f.lat f.lon f.el f.ra :=
 ⟨blkCell' h 0 rfl,blkCell' h 1 rfl,blkCell' h 2 rfl,blkCell' h 3 rfl,blkCell' h 4 rfl,blkCell' h 5 rfl,blkCell' h 6 rfl⟩
theorem FxBox.below {w w':World} {b:Nat} {f:Fx} (h:FxBox w b f) (hb:Below w.heap.size w w'):FxBox w' b f:=(hb.block b (Array.getElem?_eq_some_iff.1 h).1).trans h
theorem fxBox_new (w:World) (f:Fx):FxBox (w.alloc (.cells #[.string (sb f.id),.string (sb f.rg),.int .u8 (f.kd:Int),.int .i64 f.lat,.int .i64 f.lon,.int .i64 f.el,.int .i64 f.ra] 38)) w.heap.size f:=heap_alloc_new w _

def FRefPost (f:Fx) (w:World) (e:Ending) (w':World):Prop:=e=.returned (.string (sb (fxRef f)))∧Below w.heap.size w w'
theorem fixRef_any (f:Fx) (w:World) (hi:f.id.length≤1000000000000000) (hr:f.rg.length≤1000000000000000) :
  Calls Tryz.prog 14 #[.agg #[.string (sb f.id),.string (sb f.rg),.int .u8 (f.kd:Int),.int .i64 f.lat,.int .i64 f.lon,.int .i64 f.el,.int .i64 f.ra]] w (FRefPost f w):=by
 have h1:(sb f.id).size≤1000000000000000:=hi
 have h2:(sb f.rg).size≤1000000000000000:=hr
 have HE:Hid (∀s:ByteArray,bl s=fxRef f→sb (fxRef f)=s):=fun s h=>by rw[←h,sb_bl]
 clear hi hr
 go_enter Tryz.func14,Tryz.ntmps14
 go_wp2
 go_ret
 refine⟨?_,(Below.refl _ _).alloc (Nat.le_refl _) _⟩
 rw[HE.out (sb f.id++⟨#[47]⟩++sb f.rg) (by rw[bl_append,bl_append,bl_sb,bl_sb];unfold fxRef;simp[bl_mk])]
 first|rfl|(simp[ByteArray.append_assoc])
theorem rfixRef_any (f:Fx) (w:World) (hi:f.id.length≤1000000000000000) (hr:f.rg.length≤1000000000000000) :
  Calls Tryz.prog 51 #[.agg #[.string (sb f.id),.string (sb f.rg),.int .u8 (f.kd:Int),.int .i64 f.lat,.int .i64 f.lon,.int .i64 f.el,.int .i64 f.ra]] w (FRefPost f w):=by
 have h1:(sb f.id).size≤1000000000000000:=hi
 have h2:(sb f.rg).size≤1000000000000000:=hr
 have HE:Hid (∀s:ByteArray,bl s=fxRef f→sb (fxRef f)=s):=fun s h=>by rw[←h,sb_bl]
 clear hi hr
 go_enter Tryz.func51,Tryz.ntmps51
 go_wp2
 go_ret
 refine⟨?_,(Below.refl _ _).alloc (Nat.le_refl _) _⟩
 rw[HE.out (sb f.id++⟨#[47]⟩++sb f.rg) (by rw[bl_append,bl_append,bl_sb,bl_sb];unfold fxRef;simp[bl_mk])]
 first|rfl|(simp[ByteArray.append_assoc])
def Bx (b:Nat) (cs:Array Value) (t:TypeId) (w:World):Prop:=w.heap[b]? = some (.cells cs t (0,0))
theorem Bx.lt {b:Nat} {cs:Array Value} {t:TypeId} {w:World} (h:Bx b cs t w):b<w.heap.size:=lt_heap h
theorem Bx.via {b:Nat} {cs:Array Value} {t:TypeId} {T wa:World} (hb:Below T.heap.size T wa) (h:Bx b cs t T):Bx b cs t wa:=(hb.block b h.lt).trans h
theorem Bx.last (T:World) (cs:Array Value) (t:TypeId):Bx T.heap.size cs t (T.alloc (.cells cs t)):=heap_alloc_new T _
theorem Bx.set {b:Nat} {cs:Array Value} {t:TypeId} {w:World} (h:Bx b cs t w) (j:Nat) (u:Value):Bx b (cs.setIfInBounds j u) t (w.setCell ⟨b,j,none⟩ u):=heap_setCell_same w b j cs t u h
theorem Bx.cell {b:Nat} {cs:Array Value} {t:TypeId} {w:World} (h:Bx b cs t w) (j:Nat) {u:Value} (hu:cs[j]? = some u):w.cell? ⟨b,j,none⟩=some u:=blkCell' h j hu
theorem Bx.free {b:Nat} {cs:Array Value} {t:TypeId} {w:World} (h:Bx b cs t w) (j:Nat):w.frozen? ⟨b,j,none⟩=false:=frozen_of_row w b j cs t h
theorem Bx.grow {b:Nat} {cs:Array Value} {t:TypeId} {T:World} (h:Bx b cs t T) (o:Obj):Bx b cs t (T.alloc o):=h.via ((Below.refl _ T).alloc (Nat.le_refl _) o)
theorem Bx.drew {b:Nat} {cs:Array Value} {t:TypeId} {T:World} (h:Bx b cs t T):Bx b cs t T.drew:=h
theorem Bx.last2 (T:World) (o:Obj) (cs:Array Value) (t:TypeId):Bx (T.heap.size+1) cs t ((T.alloc o).alloc (.cells cs t)):=by
 have:=Bx.last (T.alloc o) cs t
 rw[World.size_alloc] at this
 exact this
theorem Bx.set9 {b:Nat} {x0 x1 x2 x3 x4 x5 x6 x7 x8:Value} {t:TypeId} {w:World} (h:Bx b #[x0,x1,x2,x3,x4,x5,x6,x7,x8] t w) (y0 y1 y2 y3 y4 y5 y6 y7 y8:Value) :
  Bx b #[y0,y1,y2,y3,y4,y5,y6,y7,y8] t (((((((((w.setCell ⟨b,0,none⟩ y0).setCell ⟨b,1,none⟩ y1).setCell ⟨b,2,none⟩ y2).setCell ⟨b,3,none⟩ y3).setCell ⟨b,4,none⟩ y4).setCell ⟨b,5,none⟩ y5).setCell ⟨b,6,none⟩ y6).setCell ⟨b,7,none⟩ y7).setCell ⟨b,8,none⟩ y8):=by
 have h0:Bx b #[y0,x1,x2,x3,x4,x5,x6,x7,x8] t _:=h.set 0 y0
 have h1:Bx b #[y0,y1,x2,x3,x4,x5,x6,x7,x8] t _:=h0.set 1 y1
 have h2:Bx b #[y0,y1,y2,x3,x4,x5,x6,x7,x8] t _:=h1.set 2 y2
 have h3:Bx b #[y0,y1,y2,y3,x4,x5,x6,x7,x8] t _:=h2.set 3 y3
 have h4:Bx b #[y0,y1,y2,y3,y4,x5,x6,x7,x8] t _:=h3.set 4 y4
 have h5:Bx b #[y0,y1,y2,y3,y4,y5,x6,x7,x8] t _:=h4.set 5 y5
 have h6:Bx b #[y0,y1,y2,y3,y4,y5,y6,x7,x8] t _:=h5.set 6 y6
 have h7:Bx b #[y0,y1,y2,y3,y4,y5,y6,y7,x8] t _:=h6.set 7 y7
 have h8:Bx b #[y0,y1,y2,y3,y4,y5,y6,y7,y8] t _:=h7.set 8 y8
 exact h8
theorem Bx.cells9 {b:Nat} {x0 x1 x2 x3 x4 x5 x6 x7 x8:Value} {t:TypeId} {w:World} (h:Bx b #[x0,x1,x2,x3,x4,x5,x6,x7,x8] t w) :
  (w.cell? ⟨b,0,none⟩=some x0∧w.cell? ⟨b,1,none⟩=some x1∧w.cell? ⟨b,2,none⟩=some x2∧w.cell? ⟨b,3,none⟩=some x3∧w.cell? ⟨b,4,none⟩=some x4∧w.cell? ⟨b,5,none⟩=some x5∧w.cell? ⟨b,6,none⟩=some x6∧w.cell? ⟨b,7,none⟩=some x7∧w.cell? ⟨b,8,none⟩=some x8) ∧
  (w.frozen? ⟨b,0,none⟩=false∧w.frozen? ⟨b,1,none⟩=false∧w.frozen? ⟨b,2,none⟩=false∧w.frozen? ⟨b,3,none⟩=false∧w.frozen? ⟨b,4,none⟩=false∧w.frozen? ⟨b,5,none⟩=false∧w.frozen? ⟨b,6,none⟩=false∧w.frozen? ⟨b,7,none⟩=false∧w.frozen? ⟨b,8,none⟩=false) :=
 ⟨⟨h.cell 0 rfl,h.cell 1 rfl,h.cell 2 rfl,h.cell 3 rfl,h.cell 4 rfl,h.cell 5 rfl,h.cell 6 rfl,h.cell 7 rfl,h.cell 8 rfl⟩,h.free 0,h.free 1,h.free 2,h.free 3,h.free 4,h.free 5,h.free 6,h.free 7,h.free 8⟩
theorem Bx.set3 {b:Nat} {x0 x1 x2:Value} {t:TypeId} {w:World} (h:Bx b #[x0,x1,x2] t w) (y0 y1 y2:Value) :
  Bx b #[y0,y1,y2] t (((w.setCell ⟨b,0,none⟩ y0).setCell ⟨b,1,none⟩ y1).setCell ⟨b,2,none⟩ y2):=((h.set 0 y0).set 1 y1).set 2 y2
theorem Bx.cells3 {b:Nat} {x0 x1 x2:Value} {t:TypeId} {w:World} (h:Bx b #[x0,x1,x2] t w) :
  (w.cell? ⟨b,0,none⟩=some x0∧w.cell? ⟨b,1,none⟩=some x1∧w.cell? ⟨b,2,none⟩=some x2)∧(w.frozen? ⟨b,0,none⟩=false∧w.frozen? ⟨b,1,none⟩=false∧w.frozen? ⟨b,2,none⟩=false) :=
 ⟨⟨h.cell 0 rfl,h.cell 1 rfl,h.cell 2 rfl⟩,h.free 0,h.free 1,h.free 2⟩
theorem bel_set9 {B b:Nat} {w0 w:World} (h:Below B w0 w) (hb:B≤b) (y0 y1 y2 y3 y4 y5 y6 y7 y8:Value):Below B w0 (((((((((w.setCell ⟨b,0,none⟩ y0).setCell ⟨b,1,none⟩ y1).setCell ⟨b,2,none⟩ y2).setCell ⟨b,3,none⟩ y3).setCell ⟨b,4,none⟩ y4).setCell ⟨b,5,none⟩ y5).setCell ⟨b,6,none⟩ y6).setCell ⟨b,7,none⟩ y7).setCell ⟨b,8,none⟩ y8) :=
 ((((((((h.setCell hb y0).setCell hb y1).setCell hb y2).setCell hb y3).setCell hb y4).setCell hb y5).setCell hb y6).setCell hb y7).setCell hb y8
theorem bel_set3 {B b:Nat} {w0 w:World} (h:Below B w0 w) (hb:B≤b) (y0 y1 y2:Value):Below B w0 (((w.setCell ⟨b,0,none⟩ y0).setCell ⟨b,1,none⟩ y1).setCell ⟨b,2,none⟩ y2) :=
 ((h.setCell hb y0).setCell hb y1).setCell hb y2
structure Frm (S:Nat→Prop) (w w':World):Prop where
 os:w'.os=w.os
 tape:w'.tape=w.tape
 output:w'.output=w.output
 size:w.heap.size≤w'.heap.size
 block:∀k,k<w.heap.size→¬S k→w'.heap[k]? = w.heap[k]?
theorem Frm.refl (S:Nat→Prop) (w:World):Frm S w w:=⟨rfl,rfl,rfl,Nat.le_refl _,fun _ _ _=>rfl⟩
theorem Frm.trans {S:Nat→Prop} {a b c:World} (h:Frm S a b) (k:Frm S b c):Frm S a c :=
 ⟨k.os.trans h.os,k.tape.trans h.tape,k.output.trans h.output,Nat.le_trans h.size k.size,fun i hi hn=>(k.block i (Nat.lt_of_lt_of_le hi h.size) hn).trans (h.block i hi hn)⟩
theorem Frm.of_below {S:Nat→Prop} {w w':World} (h:Below w.heap.size w w'):Frm S w w':=⟨h.os,h.tape,h.output,h.size,fun k hk _=>h.block k hk⟩
theorem Frm.grown {S:Nat→Prop} {w w':World} {b:Nat} (h:w.grownBy w' (some b)) (hb:S b):Frm S w w' :=
 ⟨h.os,h.tape,h.output,h.size,fun k hk hn=>h.block k hk (fun e=>by injection e with e;exact hn (e ▸ hb))⟩
theorem Frm.mono {S T:Nat→Prop} {w w':World} (h:Frm S w w') (hT:∀k,S k→T k):Frm T w w':=⟨h.os,h.tape,h.output,h.size,fun k hk hn=>h.block k hk (fun hs=>hn (hT k hs))⟩
theorem Frm.below {S:Nat→Prop} {w w':World} (h:Frm S w w') {B:Nat} (hB:B≤w.heap.size) (hS:∀k,S k→B≤k):Below B w w' :=
 ⟨h.os,h.tape,h.output,h.size,fun k hk=>h.block k (by omega) (fun hs=>by have:=hS k hs;omega)⟩
theorem Frm.cell {S:Nat→Prop} {w w':World} (h:Frm S w w') {a:Addr} (h1:a.block<w.heap.size) (h2:¬S a.block):w'.cell? a=w.cell? a:=World.cell?_of_block (h.block _ h1 h2)
end Go.Proofs.YtgmehlgfilpleaaGreatDoor
namespace Go.Proofs.YtgmehlgfilpleaaGreatDoor
open Go.RowKit Go.Lib Go.Sort
set_option linter.unusedVariables false
set_option linter.unusedSimpArgs false
theorem stableZ_fix (A:Option Addr) (cap:Nat) (fv:Value) (w:World):Calls Tryz.prog 193 #[.slice A 0 cap,fv] w fun e w'=>e=.returned (.tuple #[])∧w'=w:=by
 have h1:∀w,Calls Tryz.prog 338 #[.slice A 0 cap,.int .i64 0,.int .i64 0,fv] w fun e w'=>e=.returned (.tuple #[])∧w'=w:=by
  intro w
  go_enter Tryz.func338,Tryz.ntmps338
  go_wp2
  go_loopg [8] 0 (fun g i wr=>i=.int .i64 1∧wr=w)
  case atStart=>exact⟨rfl,rfl⟩
  case round =>
   obtain⟨rfl,hw⟩:=hrel
   have HW:=Lib.hid hw
   clear hw
   go_wp2
   go_end0
   exact⟨rfl,HW.out⟩
 have h2:∀w,Calls Tryz.prog 270 #[.slice A 0 cap,.int .i64 0,fv] w fun e w'=>e=.returned (.tuple #[])∧w'=w:=by
  intro w
  go_enter Tryz.func270,Tryz.ntmps270
  go_wp2
  go_loopg [7,8] 0 (fun g a b wr=>a=.int .i64 0∧b=.int .i64 20∧wr=w)
  case atStart=>exact⟨rfl,rfl,rfl⟩
  case round =>
   obtain⟨rfl,rfl,hw⟩:=hrel
   have HW:=Lib.hid hw
   clear hw
   go_wp2_with fail
   refine(h1 _).mono ?_
   rintro e w2 ⟨rfl,hw2⟩
   have HW2:Hid (w2=w):=hw2.trans HW.out
   clear hw2
   go_wp2
   go_loopg [6] 0 (fun g a wr=>a=.int .i64 20∧wr=w)
   case atStart=>exact⟨rfl,HW2.out⟩
   case round =>
    obtain⟨rfl,hw⟩:=hrel
    have HW:=Lib.hid hw
    clear hw
    go_wp2
    go_end0
    exact⟨rfl,HW.out⟩
 go_enter Tryz.func193,Tryz.ntmps193
 go_wp2_with fail
 refine(h2 _).mono ?_
 rintro e w2 ⟨rfl,rfl⟩
 go_wp2
 go_end0
 exact⟨rfl,rfl⟩
theorem stableZ_air (A:Option Addr) (cap:Nat) (fv:Value) (w:World):Calls Tryz.prog 116 #[.slice A 0 cap,fv] w fun e w'=>e=.returned (.tuple #[])∧w'=w:=by
 have h1:∀w,Calls Tryz.prog 271 #[.slice A 0 cap,.int .i64 0,.int .i64 0,fv] w fun e w'=>e=.returned (.tuple #[])∧w'=w:=by
  intro w
  go_enter Tryz.func271,Tryz.ntmps271
  go_wp2
  go_loopg [8] 0 (fun g i wr=>i=.int .i64 1∧wr=w)
  case atStart=>exact⟨rfl,rfl⟩
  case round =>
   obtain⟨rfl,hw⟩:=hrel
   have HW:=Lib.hid hw
   clear hw
   go_wp2
   go_end0
   exact⟨rfl,HW.out⟩
 have h2:∀w,Calls Tryz.prog 195 #[.slice A 0 cap,.int .i64 0,fv] w fun e w'=>e=.returned (.tuple #[])∧w'=w:=by
  intro w
  go_enter Tryz.func195,Tryz.ntmps195
  go_wp2
  go_loopg [7,8] 0 (fun g a b wr=>a=.int .i64 0∧b=.int .i64 20∧wr=w)
  case atStart=>exact⟨rfl,rfl,rfl⟩
  case round =>
   obtain⟨rfl,rfl,hw⟩:=hrel
   have HW:=Lib.hid hw
   clear hw
   go_wp2_with fail
   refine(h1 _).mono ?_
   rintro e w2 ⟨rfl,hw2⟩
   have HW2:Hid (w2=w):=hw2.trans HW.out
   clear hw2
   go_wp2
   go_loopg [6] 0 (fun g a wr=>a=.int .i64 20∧wr=w)
   case atStart=>exact⟨rfl,HW2.out⟩
   case round =>
    obtain⟨rfl,hw⟩:=hrel
    have HW:=Lib.hid hw
    clear hw
    go_wp2
    go_end0
    exact⟨rfl,HW.out⟩
 go_enter Tryz.func116,Tryz.ntmps116
 go_wp2_with fail
 refine(h2 _).mono ?_
 rintro e w2 ⟨rfl,rfl⟩
 go_wp2
 go_end0
 exact⟨rfl,rfl⟩
theorem stableZ_proc (A:Option Addr) (cap:Nat) (fv:Value) (w:World):Calls Tryz.prog 118 #[.slice A 0 cap,fv] w fun e w'=>e=.returned (.tuple #[])∧w'=w:=by
 have h1:∀w,Calls Tryz.prog 273 #[.slice A 0 cap,.int .i64 0,.int .i64 0,fv] w fun e w'=>e=.returned (.tuple #[])∧w'=w:=by
  intro w
  go_enter Tryz.func273,Tryz.ntmps273
  go_wp2
  go_loopg [8] 0 (fun g i wr=>i=.int .i64 1∧wr=w)
  case atStart=>exact⟨rfl,rfl⟩
  case round =>
   obtain⟨rfl,hw⟩:=hrel
   have HW:=Lib.hid hw
   clear hw
   go_wp2
   go_end0
   exact⟨rfl,HW.out⟩
 have h2:∀w,Calls Tryz.prog 196 #[.slice A 0 cap,.int .i64 0,fv] w fun e w'=>e=.returned (.tuple #[])∧w'=w:=by
  intro w
  go_enter Tryz.func196,Tryz.ntmps196
  go_wp2
  go_loopg [7,8] 0 (fun g a b wr=>a=.int .i64 0∧b=.int .i64 20∧wr=w)
  case atStart=>exact⟨rfl,rfl,rfl⟩
  case round =>
   obtain⟨rfl,rfl,hw⟩:=hrel
   have HW:=Lib.hid hw
   clear hw
   go_wp2_with fail
   refine(h1 _).mono ?_
   rintro e w2 ⟨rfl,hw2⟩
   have HW2:Hid (w2=w):=hw2.trans HW.out
   clear hw2
   go_wp2
   go_loopg [6] 0 (fun g a wr=>a=.int .i64 20∧wr=w)
   case atStart=>exact⟨rfl,HW2.out⟩
   case round =>
    obtain⟨rfl,hw⟩:=hrel
    have HW:=Lib.hid hw
    clear hw
    go_wp2
    go_end0
    exact⟨rfl,HW.out⟩
 go_enter Tryz.func118,Tryz.ntmps118
 go_wp2_with fail
 refine(h2 _).mono ?_
 rintro e w2 ⟨rfl,rfl⟩
 go_wp2
 go_end0
 exact⟨rfl,rfl⟩
theorem cloneZ_fix (w:World):Calls Tryz.prog 192 #[.slice none 0 0] w fun e w'=>e=.returned (.slice none 0 0)∧w'=w:=by
 have hnil:∀W,(binOp .eql 26 (.slice none 0 0) (.slice none 0 0)).run Tryz.prog W=.ok (.bool true) W:=fun W=>Lib.run_eql_slice_nil W _ _ _ _ _ _ _ Tryz.underlying26
 go_enter Tryz.func192,Tryz.ntmps192
 go_wp2
 go_ret
 exact⟨rfl,rfl⟩
theorem sortZ_fix (w:World):Calls Tryz.prog 115 #[.slice none 0 0] w fun e w'=>e=.returned (.slice none 0 0)∧w'=w:=by
 go_enter Tryz.func115,Tryz.ntmps115
 go_wp2_with fail
 refine(cloneZ_fix _).mono ?_
 rintro e w1 ⟨rfl,rfl⟩
 go_wp2_with fail
 refine(stableZ_fix none 0 _ _).mono ?_
 rintro e w1 ⟨rfl,rfl⟩
 go_wp2
 go_ret
 exact⟨rfl,rfl⟩
end Go.Proofs.YtgmehlgfilpleaaGreatDoor
