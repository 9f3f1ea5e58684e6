/-
  Several texts as one.
-/
import Derived.Test.YtgmehlgfilpleaaGreatDoorMG02
import Derived.Lib.ParseIntB
import Derived.Deep.CutRange
import Derived.Deep.DeepCutAuto
namespace Go.Proofs.YtgmehlgfilpleaaGreatDoor
open Go.RowKit
set_option linter.unusedVariables false
set_option linter.unusedSimpArgs false

def digFrom (a:Nat) (l:List UInt8):Nat:=l.foldl (fun a c=>10*a+(c.toNat-48)) a
def digVal (l:List UInt8):Nat:=digFrom 0 l
theorem digFrom_cons (a:Nat) (c:UInt8) (l:List UInt8):digFrom a (c::l)=digFrom (10*a+(c.toNat-48)) l:=by unfold digFrom;rw[List.foldl_cons]
theorem digitB_bounds {c:UInt8} (h:digitB c=true):48≤c.toNat∧c.toNat≤57:=by
 unfold digitB at h;simpa using h
theorem ten_up (a p:Nat):(a+1)*(p*10)=(10*a+10)*p:=by
 rw[Nat.mul_comm p 10,←Nat.mul_assoc,Nat.add_mul,Nat.mul_comm a 10]
theorem ten_low (a p:Nat):a*(p*10)=(10*a)*p:=by
 rw[Nat.mul_comm p 10,←Nat.mul_assoc,Nat.mul_comm a 10]
theorem digFrom_bound (l:List UInt8):∀(a:Nat),l.all digitB=true→digFrom a l<(a+1)*10^l.length∧a*10^l.length≤digFrom a l:=by
 induction l with
 | nil=>intro a _;unfold digFrom;simp
 | cons c l ih =>
  intro a h
  rw[List.all_cons,Bool.and_eq_true] at h
  have hc:=digitB_bounds h.1
  have ih:=ih (10*a+(c.toNat-48)) h.2
  rw[digFrom_cons,List.length_cons,Nat.pow_succ,ten_up,ten_low]
  exact⟨Nat.lt_of_lt_of_le ih.1 (Nat.mul_le_mul_right _ (by omega)),Nat.le_trans (Nat.mul_le_mul_right _ (by omega)) ih.2⟩
theorem digVal_lt {l:List UInt8} (h:l.all digitB=true):digVal l<10^l.length:=by
 have:=(digFrom_bound l 0 h).1;simpa [digVal] using this
theorem parseM_digits (l:List UInt8):∀(a:Nat),l.all digitB=true→(a+1)*10^l.length≤1000000000000000000→Lib.parseUintM (2^64-1) a l=.ok (digFrom a l):=by
 induction l with
 | nil=>intro a _ _;rfl
 | cons c l ih =>
  intro a h hb
  rw[List.all_cons,Bool.and_eq_true] at h
  have hc:=digitB_bounds h.1
  rw[List.length_cons,Nat.pow_succ,ten_up] at hb
  have hp:0<10^l.length:=Nat.pow_pos (by decide)
  have hb3:10*a+10≤1000000000000000000:=Nat.le_trans (Nat.le_mul_of_pos_right _ hp) hb
  have ih:=ih (10*a+(c.toNat-48)) h.2 (Nat.le_trans (Nat.mul_le_mul_right _ (by omega)) hb)
  unfold Lib.parseUintM
  rw[if_pos hc,if_neg (by omega),if_neg (by omega),show a*10+(c.toNat-48)=10*a+(c.toNat-48) by omega]
  exact ih
theorem plainB_parts {l:List UInt8} (h:plainB l=true):l≠[]∧zeroAhead l=false∧l.all digitB=true:=by
 unfold plainB at h
 simp only[Bool.and_eq_true,Bool.not_eq_true',List.isEmpty_eq_false_iff] at h
 exact⟨h.1.1,h.1.2,h.2⟩
theorem parseInt_plain {l:List UInt8} (h0:l≠[]) (h:l.all digitB=true) (hl:l.length≤18):Lib.parseIntB 64 l=.ok (digVal l:Int):=by
 match l,h0 with
 | c::r,_ =>
  have hd:=digVal_lt h
  have hp:10^(c::r).length≤10^18:=Nat.pow_le_pow_right (by decide) hl
  have hm:=parseM_digits (c::r) 0 h (by rw[Nat.zero_add,Nat.one_mul];exact hp)
  have hc:digitB c=true:=by simp only[List.all_cons,Bool.and_eq_true] at h;exact h.1
  have hcb:=digitB_bounds hc
  unfold Lib.parseIntB
  simp only[]
  rw[if_neg (show ¬(c.toNat=43∨c.toNat=45) by omega)]
  have hu:Lib.parseUintB 64 (c::r)=.ok (digFrom 0 (c::r)):=by
   unfold Lib.parseUintB;rw[if_neg (by simp)];exact hm
  rw[hu]
  have e1:digFrom 0 (c::r)=digVal (c::r):=rfl
  simp only[e1]
  rw[if_neg (by omega),if_neg (by omega),if_neg (by omega)]
theorem below_bytesWorld (w:World) (t:TypeId) (s:ByteArray):Below w.heap.size w (Lib.bytesWorld w t s) :=
 ⟨rfl,rfl,rfl,by rw[Lib.bytesWorld_size];omega,fun k hk=>Lib.bytesWorld_at_old w t s k hk⟩
theorem parseInt_ok (s:ByteArray) (w:World) (h0:Hid (bl s≠[])) (h:Hid ((bl s).all digitB=true)) (hl:s.size≤18) :
  Calls Tryz.prog 364 #[.string s,.int .i64 10,.int .i64 64] w fun e w'=>∃n:Nat,e=.returned (.tuple #[.int .i64 (n:Int),.nilIface])∧Hid (n=digVal (bl s))∧n<1000000000000000000∧Below w.heap.size w w':=by
 refine(Tryz.strconv_ParseInt_10_at64_ok s (by omega) _ (parseInt_plain h0.out h.out hl) w).mono ?_
 rintro e w' ⟨rfl,hw⟩
 refine⟨_,rfl,rfl,?_,?_⟩
 ·have hp:10^(bl s).length≤10^18:=Nat.pow_le_pow_right (by decide) hl
  exact Nat.lt_of_lt_of_le (digVal_lt h.out) hp
 ·rcases hw with rfl|⟨t,rfl⟩
  ·exact Below.refl _ _
  ·exact below_bytesWorld _ _ _

def pairB (l:List UInt8):Bool:=l.length == 2&&l.all digitB && !(l == [48,48])
def altSpec (l:List UInt8):Option Int :=
 if plainB (cutAt 46 (if headIs 45 l then l.tail else l)).1&&(!(cutAt 46 (if headIs 45 l then l.tail else l)).2.2 || pairB (cutAt 46 (if headIs 45 l then l.tail else l)).2.1) then
  if headIs 45 l then
   (if digVal (cutAt 46 (if headIs 45 l then l.tail else l)).1*100+(if (cutAt 46 (if headIs 45 l then l.tail else l)).2.2 then digVal (cutAt 46 (if headIs 45 l then l.tail else l)).2.1 else 0)=0 then none
   else some (-((digVal (cutAt 46 (if headIs 45 l then l.tail else l)).1*100+(if (cutAt 46 (if headIs 45 l then l.tail else l)).2.2 then digVal (cutAt 46 (if headIs 45 l then l.tail else l)).2.1 else 0):Nat):Int)))
  else some ((digVal (cutAt 46 (if headIs 45 l then l.tail else l)).1*100+(if (cutAt 46 (if headIs 45 l then l.tail else l)).2.2 then digVal (cutAt 46 (if headIs 45 l then l.tail else l)).2.1 else 0):Nat):Int)
 else none
def altOf (neg:Bool) (whole part:List UInt8) (dot:Bool):Option Int :=
 if plainB whole&&(!dot || pairB part) then
  if neg then (if digVal whole*100+(if dot then digVal part else 0)=0 then none else some (-((digVal whole*100+(if dot then digVal part else 0):Nat):Int)))
  else some ((digVal whole*100+(if dot then digVal part else 0):Nat):Int)
 else none
theorem altSpec_eq {l r a b:List UInt8} {f g:Bool} (h1:g=headIs 45 l) (h2:r=if g then l.tail else l) (h3:cutAt 46 r=(a,b,f)):altSpec l=altOf g a b f:=by
 subst h1 h2
 unfold altSpec altOf
 rw[h3]
def AltRes (o:Option Int) (n:Int) (ok:Bool):Prop:=match o with
 | none=>ok=false
 | some v=>ok=true∧rangedB n=rangedB v∧(rangedB v=true→n=v)
theorem altOf_plain {g f:Bool} {a b:List UInt8} (h:plainB a=false):altOf g a b f=none:=by unfold altOf;rw[h];rfl
theorem altOf_pair {g:Bool} {a b:List UInt8} (h:pairB b=false):altOf g a b true=none:=by unfold altOf;rw[h];simp
theorem pair_size {s:ByteArray} (h:¬s.size=2):pairB (bl s)=false:=by
 unfold pairB
 have:((bl s).length == 2)=false:=by rw[beq_eq_false_iff_ne];exact h
 rw[this];rfl
theorem pair_digit {s:ByteArray} {k:Nat} (hk:k<s.size) (h:(s[k].toNat:Int)<48∨57<(s[k].toNat:Int)):pairB (bl s)=false:=by
 unfold pairB;rw[all_false_at (l:=bl s) (k:=k) hk (digitB_no h)];simp
theorem pair_zero {s:ByteArray} (h:bl s=[48,48]):pairB (bl s)=false:=by rw[h];rfl
theorem two_bytes {s:ByteArray} (h:s.size=2):bl s=[s[0],s[1]]:=by
 apply List.ext_getElem?
 intro i
 match i with
 | 0=>rw[bl_get? s 0 (by omega)];rfl
 | 1=>rw[bl_get? s 1 (by omega)];rfl
 | i+2=>rw[List.getElem?_eq_none (by rw[bl_len];omega)];rfl

theorem digVal_two {s:ByteArray} (h:s.size=2):digVal (bl s)=(s[0].toNat-48)*10+(s[1].toNat-48):=by
 rw[two_bytes h]
 show digFrom 0 [s[0],s[1]]=_
 rw[digFrom_cons,digFrom_cons]
 show 10*(10*0+(s[0].toNat-48))+(s[1].toNat-48)=_
 omega
theorem pair_yes {s:ByteArray} (h:s.size=2) (h0:48≤s[0].toNat∧s[0].toNat≤57) (h1:48≤s[1].toNat∧s[1].toNat≤57) (hz:¬bl s=[48,48]):pairB (bl s)=true:=by
 unfold pairB
 have e1:((bl s).length == 2)=true:=by rw[beq_iff_eq];exact h
 have e2:(bl s).all digitB=true:=by
  rw[two_bytes h]
  simp only[List.all_cons,List.all_nil,digitB_yes (c:=s[0]) (by omega) (by omega),digitB_yes (c:=s[1]) (by omega) (by omega)];rfl
 have e3:(bl s == [48,48])=false:=by rw[beq_eq_false_iff_ne];exact hz
 rw[e1,e2,e3];rfl
theorem pair_val {b:List UInt8} (h:pairB b=true):digVal b<100:=by
 unfold pairB at h
 simp only[Bool.and_eq_true,beq_iff_eq] at h
 have:=digVal_lt h.1.2
 rw[h.1.1] at this
 exact this
theorem digVal_big {a:List UInt8} (hp:plainB a=true) (hl:10≤a.length):1000000000≤digVal a:=by
 obtain⟨h0,hz,hd⟩:=plainB_parts hp
 match a,h0 with
 | c::r,_ =>
  rw[List.all_cons,Bool.and_eq_true] at hd
  have hc:=digitB_bounds hd.1
  have hne:c.toNat≠48:=by
   intro e
   unfold zeroAhead at hz
   have e2:c=48:=(u8_eq (n:=48) (by omega)).1 e
   subst e2
   rw[decide_eq_true (by omega)] at hz
   simp at hz
  have hb:=(digFrom_bound r (10*0+(c.toNat-48)) hd.2).2
  have hp9:10^9≤10^r.length:=Nat.pow_le_pow_right (by decide) (by simp only[List.length_cons] at hl;omega)
  have h1:1*10^r.length≤(10*0+(c.toNat-48))*10^r.length:=Nat.mul_le_mul_right _ (by omega)
  have e:digVal (c::r)=digFrom (10*0+(c.toNat-48)) r:=by unfold digVal;rw[digFrom_cons]
  rw[e]
  omega
theorem altRes_pos {g f:Bool} {a b:List UInt8} {n k:Nat} (hg:g=false) (hp:plainB a=true) (hf:f=false∧k=0∨f=true∧pairB b=true∧k=digVal b)
  (hn:n=digVal a∨10≤a.length∧n=1099511627776):AltRes (altOf g a b f) ((n:Int)*100+(k:Int)) true:=by
 subst hg
 have hk:k<100:=by
  rcases hf with ⟨_,h⟩|⟨_,h,h'⟩
  ·omega
  ·rw[h'];exact pair_val h
 have e:altOf false a b f=some ((digVal a*100+k:Nat):Int):=by
  unfold altOf
  rcases hf with ⟨rfl,rfl⟩|⟨rfl,h,rfl⟩
  ·rw[hp];simp
  ·rw[hp,h];simp
 rw[e]
 refine⟨rfl,?_⟩
 rcases hn with rfl|⟨hl,rfl⟩
 ·exact⟨by rw[show((digVal a:Int)*100+(k:Int))=((digVal a*100+k:Nat):Int) by omega],fun _=>by omega⟩
 ·have hb:=digVal_big hp hl
  have h1:rangedB (((1099511627776:Nat):Int)*100+(k:Int))=false:=rangedB_no (by omega)
  have h2:rangedB ((digVal a*100+k:Nat):Int)=false:=rangedB_no (by omega)
  rw[h1,h2]
  exact⟨rfl,fun h=>nomatch h⟩
theorem altRes_neg {g f ok:Bool} {a b:List UInt8} {n k:Nat} (hg:g=true) (hp:plainB a=true) (hf:f=false∧k=0∨f=true∧pairB b=true∧k=digVal b)
  (hn:n=digVal a∨10≤a.length∧n=1099511627776) (hok:ok=decide (n*100+k≠0)):AltRes (altOf g a b f) (-((n:Int)*100+(k:Int))) ok:=by
 subst hg hok
 have hk:k<100:=by
  rcases hf with ⟨_,h⟩|⟨_,h,h'⟩
  ·omega
  ·rw[h'];exact pair_val h
 have e:altOf true a b f=if digVal a*100+k=0 then none else some (-((digVal a*100+k:Nat):Int)):=by
  unfold altOf
  rcases hf with ⟨rfl,rfl⟩|⟨rfl,h,rfl⟩
  ·rw[hp];simp
  ·rw[hp,h];simp
 rw[e]
 rcases hn with rfl|⟨hl,rfl⟩
 ·by_cases hz:digVal a*100+k=0
  ·rw[if_pos hz,decide_eq_false (by omega)];rfl
  ·rw[if_neg hz,decide_eq_true hz]
   exact⟨rfl,by rw[show((digVal a:Int)*100+(k:Int))=((digVal a*100+k:Nat):Int) by omega],fun _=>by omega⟩
 ·have hb:=digVal_big hp hl
  rw[if_neg (by omega),decide_eq_true (by omega)]
  have h1:rangedB (-(((1099511627776:Nat):Int)*100+(k:Int)))=false:=rangedB_no (by omega)
  have h2:rangedB (-((digVal a*100+k:Nat):Int))=false:=rangedB_no (by omega)
  refine⟨rfl,?_⟩
  rw[h1,h2]
  exact⟨rfl,fun h=>by cases h⟩
theorem altRes_none {o:Option Int} {n:Int} (h:o=none):AltRes o n false:=by subst h;rfl
theorem short_val {s:ByteArray} {n:Nat} (hn:n=digVal (bl s)) (hd:(bl s).all digitB=true) (h:s.size<10):n<1000000000:=by
 have h1:=digVal_lt hd
 have h2:10^(bl s).length≤10^9:=Nat.pow_le_pow_right (by decide) (by rw[bl_len];omega)
 omega
theorem bne_dec {x:Int} {N:Nat} (h:x=(N:Int)):(x != 0)=decide (N≠0):=by
 subst h
 rw[Bool.eq_iff_iff,bne_iff_ne,decide_eq_true_iff]
 omega
def AltPost (s:ByteArray) (w:World) (e:Ending) (w':World):Prop:=∃n ok,e=.returned (.tuple #[.int .i64 n,.bool ok])∧AltRes (altSpec (bl s)) n ok∧Below w.heap.size w w'
theorem altPost {s:ByteArray} {w w':World} {n:Int} {ok:Bool} {o:Option Int} (ho:altSpec (bl s)=o) (h:AltRes o n ok) (hb:Below w.heap.size w w'):AltPost s w (.returned (.tuple #[.int .i64 n,.bool ok])) w' :=
 ⟨n,ok,rfl,ho ▸ h,hb⟩
set_option maxHeartbeats 1000000 in
theorem altitude_any (s:ByteArray) (w:World) (E:Env w) (hs:s.size≤140737488351232) :
  Calls Tryz.prog 361 #[.string s] w (AltPost s w):=by
 go_enter Tryz.func361,Tryz.ntmps361
 go_wp2_with fail
 refine(cutPrefix1 s 45 _).mono ?_
 rintro e w' ⟨r,g,rfl,hg,hr,hrs,rfl⟩
 go_wp2_with fail
 refine(cut1 r 46 _ E (by omega)).mono ?_
 rintro e w1 ⟨a,b,f,rfl,hcut,has,hbs,hb1⟩
 have hspec:=Lib.hid (altSpec_eq hg.out hr.out hcut.out)
 go_wp2_with fail
 refine(plain_any a _ (by unfold maxLen;omega)).mono ?_
 rintro e w' ⟨rfl,rfl⟩
 rcases hp:plainB (bl a) with _|_
 ·have HP:=Lib.hid hp;clear hp
  go_wp2
  go_ret2
  exact altPost hspec.out (altRes_none (altOf_plain HP.out)) hb1
 ·have HP:=Lib.hid hp;clear hp
  have hcase:(f=true∧∃h2:b.size=2,Hid (pairB (bl b)=true)∧Hid (((b.size:Int) != 2)=false)∧(48:Int)≤(b[0].toNat:Int)∧(b[0].toNat:Int)≤57∧(48:Int)≤(b[1].toNat:Int)∧(b[1].toNat:Int)≤57∧Hid ((b.toList == [48,48])=false))
    ∨ (f=true∧Hid (pairB (bl b)=false)∧(Hid (((b.size:Int) != 2)=true)∨∃h2:b.size=2,Hid (((b.size:Int) != 2)=false)∧((b[0].toNat:Int)<48∨57<(b[0].toNat:Int) ∨
     ((48:Int)≤(b[0].toNat:Int)∧(b[0].toNat:Int)≤57∧((b[1].toNat:Int)<48∨57<(b[1].toNat:Int)∨((48:Int)≤(b[1].toNat:Int)∧(b[1].toNat:Int)≤57∧Hid ((b.toList == [48,48])=true)))))))∨f=false:=by
   cases f
   ·exact .inr (.inr rfl)
   ·by_cases h2:b.size=2
    ·have hne:((b.size:Int) != 2)=false:=by rw[bne_eq_false_iff_eq];omega
     by_cases c0:(b[0].toNat:Int)<48∨57<(b[0].toNat:Int)
     ·exact .inr (.inl ⟨rfl,pair_digit (by omega) c0,.inr ⟨h2,hne,by omega⟩⟩)
     ·by_cases c1:(b[1].toNat:Int)<48∨57<(b[1].toNat:Int)
      ·exact .inr (.inl ⟨rfl,pair_digit (by omega) c1,.inr ⟨h2,hne,by omega⟩⟩)
      ·by_cases c2:bl b=[48,48]
       ·exact .inr (.inl ⟨rfl,pair_zero c2,.inr ⟨h2,hne,.inr (.inr ⟨by omega,by omega,.inr (.inr ⟨by omega,by omega,by show(b.toList == [48,48])=true;rw[bl_toList,c2];rfl⟩)⟩)⟩⟩)
       ·exact .inl ⟨rfl,h2,pair_yes h2 (by omega) (by omega) c2,hne,by omega,by omega,by omega,by omega,by show(b.toList == [48,48])=false;rw[bl_toList,beq_eq_false_iff_ne];exact c2⟩
    ·have hne:((b.size:Int) != 2)=true:=by rw[bne_iff_ne];omega
     exact .inr (.inl ⟨rfl,pair_size h2,.inl hne⟩)
  have hlen:a.size<10∨10≤a.size:=by omega
  rcases hcase with ⟨rfl,h2,hpair,h3,h4,h5,h6,h7,h8⟩|⟨rfl,hpair,hb|⟨h2,hb,hc⟩⟩|rfl
  ·have h3:=h3.out
   have h8:=h8.out
   have hv:=Lib.hid (digVal_two h2)
   go_wp2
   go_quiet (fail)
   have hk:∃k:Nat,(((b[0].toNat:Int)-(48:Int))*(10:Int)+((b[1].toNat:Int)-(48:Int)))=(k:Int)∧k=digVal (bl b)∧k<100:=⟨(b[0].toNat-48)*10+(b[1].toNat-48),by omega,hv.out.symm,by omega⟩
   obtain⟨k,hk,hkv,hk100⟩:=hk
   rw[hk]
   have HKV:=Lib.hid hkv
   clear hkv hk h3 h4 h5 h6 h8 hv
   cases g
   ·rcases hlen with hlen|hlen
    ·go_wp2_with fail
     refine(parseInt_ok a _ (plainB_parts HP.out).1 (plainB_parts HP.out).2.2 (by omega)).mono ?_
     rintro e w2 ⟨n,rfl,hn,hn18,hb2⟩
     have hn9:=short_val hn.out (plainB_parts HP.out).2.2 hlen
     go_wp2
     go_ret2
     have h:=altRes_pos (b:=bl b) (n:=n) (k:=k) (g:=false) rfl HP.out (.inr ⟨rfl,hpair.out,HKV.out⟩) (.inl hn.out)
     exact altPost hspec.out (show AltRes _ ((n:Int)*100+(k:Int)) true by simpa using h) (Below.then_ hb1 (Below.trans (below_drewN' (Below.refl _ _) _) hb2))
    ·go_wp2
     go_ret2
     have h:=altRes_pos (b:=bl b) (n:=1099511627776) (k:=k) (g:=false) rfl HP.out (.inr ⟨rfl,hpair.out,HKV.out⟩) (.inr ⟨hlen,rfl⟩)
     exact altPost hspec.out (show AltRes _ (109951162777600+(k:Int)) true from h) (Below.then_ hb1 (below_drewN' (Below.refl _ _) _))
   ·rcases hlen with hlen|hlen
    ·go_wp2_with fail
     refine(parseInt_ok a _ (plainB_parts HP.out).1 (plainB_parts HP.out).2.2 (by omega)).mono ?_
     rintro e w2 ⟨n,rfl,hn,hn18,hb2⟩
     have hn9:=short_val hn.out (plainB_parts HP.out).2.2 hlen
     go_wp2
     go_ret2
     have h:=altRes_neg (b:=bl b) (n:=n) (k:=k) (g:=true) rfl HP.out (.inr ⟨rfl,hpair.out,HKV.out⟩) (.inl hn.out) (bne_dec (x:=(n:Int)*100+(k:Int)) (N:=n*100+k) (by omega))
     exact altPost hspec.out (show AltRes _ (-((n:Int)*100+(k:Int))) ((n:Int)*100+(k:Int) != 0) by simpa using h) (Below.then_ hb1 (Below.trans (below_drewN' (Below.refl _ _) _) hb2))
    ·have hq:(109951162777600+(k:Int) != 0)=true:=by rw[bne_iff_ne];omega
     go_wp2
     go_ret2
     have h:=altRes_neg (b:=bl b) (n:=1099511627776) (k:=k) (g:=true) (ok:=true) rfl HP.out (.inr ⟨rfl,hpair.out,HKV.out⟩) (.inr ⟨hlen,rfl⟩) (by rw[eq_comm,decide_eq_true_iff];omega)
     exact altPost hspec.out (show AltRes _ (-(109951162777600+(k:Int))) true from h) (Below.then_ hb1 (below_drewN' (Below.refl _ _) _))
  ·have hb:=hb.out
   go_wp2
   go_ret2
   exact altPost hspec.out (altRes_none (altOf_pair hpair.out)) hb1
  ·have hb:=hb.out
   rcases hc with hc|hc|⟨hc0,hc1,hc|hc|⟨hc2,hc3,hc⟩⟩
   all_goals try have hc:=Hid.out hc
   all_goals
    go_wp2
    go_ret2
    exact altPost hspec.out (altRes_none (altOf_pair hpair.out)) hb1
  ·cases g
   ·rcases hlen with hlen|hlen
    ·go_wp2_with fail
     refine(parseInt_ok a _ (plainB_parts HP.out).1 (plainB_parts HP.out).2.2 (by omega)).mono ?_
     rintro e w2 ⟨n,rfl,hn,hn18,hb2⟩
     have hn9:=short_val hn.out (plainB_parts HP.out).2.2 hlen
     go_wp2
     go_ret2
     have h:=altRes_pos (b:=bl b) (n:=n) (k:=0) (g:=false) rfl HP.out (.inl ⟨rfl,rfl⟩) (.inl hn.out)
     exact altPost hspec.out (show AltRes _ ((n:Int)*100) true by simpa using h) (Below.then_ hb1 (Below.trans (Below.refl _ _) hb2))
    ·go_wp2
     go_ret2
     have h:=altRes_pos (b:=bl b) (n:=1099511627776) (k:=0) (g:=false) rfl HP.out (.inl ⟨rfl,rfl⟩) (.inr ⟨hlen,rfl⟩)
     exact altPost hspec.out (show AltRes _ (109951162777600) true from h) (Below.then_ hb1 (Below.refl _ _))
   ·rcases hlen with hlen|hlen
    ·go_wp2_with fail
     refine(parseInt_ok a _ (plainB_parts HP.out).1 (plainB_parts HP.out).2.2 (by omega)).mono ?_
     rintro e w2 ⟨n,rfl,hn,hn18,hb2⟩
     have hn9:=short_val hn.out (plainB_parts HP.out).2.2 hlen
     go_wp2
     go_ret2
     have h:=altRes_neg (b:=bl b) (n:=n) (k:=0) (g:=true) rfl HP.out (.inl ⟨rfl,rfl⟩) (.inl hn.out) (bne_dec (x:=(n:Int)*100) (N:=n*100+0) (by omega))
     exact altPost hspec.out (show AltRes _ (-((n:Int)*100)) ((n:Int)*100 != 0) by simpa using h) (Below.then_ hb1 (Below.trans (Below.refl _ _) hb2))
    ·have hq:(109951162777600 != 0)=true:=by rw[bne_iff_ne];omega
     go_wp2
     go_ret2
     have h:=altRes_neg (b:=bl b) (n:=1099511627776) (k:=0) (g:=true) (ok:=true) rfl HP.out (.inl ⟨rfl,rfl⟩) (.inr ⟨hlen,rfl⟩) (by rw[eq_comm,decide_eq_true_iff];omega)
     exact altPost hspec.out (show AltRes _ (-(109951162777600)) true from h) (Below.then_ hb1 (Below.refl _ _))

set_option maxHeartbeats 400000 in
theorem ranged_any (a:Int) (w:World) :
  Calls Tryz.prog 362 #[.int .i64 a] w fun e w'=>e=.returned (.bool (rangedB a))∧w=w':=by
 have h:(a < -200000∧Hid (rangedB a=false))∨(-200000≤a∧a≤6000000∧Hid (rangedB a=true))∨(-200000≤a∧6000000<a∧Hid (rangedB a=false)):=by
  by_cases h1:a < -200000
  ·exact .inl ⟨h1,rangedB_no (.inl h1)⟩
  ·by_cases h2:a≤6000000
   ·exact .inr (.inl ⟨by omega,h2,rangedB_yes (by omega) h2⟩)
   ·exact .inr (.inr ⟨by omega,by omega,rangedB_no (by omega)⟩)
 rcases h with ⟨h1,hr⟩|⟨h1,h2,hr⟩|⟨h1,h2,hr⟩
 all_goals
  go_enter Tryz.func362,Tryz.ntmps362
  go_wp2
  go_ret
  exact⟨ret_bool (by first|exact hr.out.symm|exact(decide_eq_true h2).trans hr.out.symm|exact(decide_eq_false (by omega)).trans hr.out.symm),rfl⟩

theorem cutAt_spec (c:UInt8) (l:List UInt8):((cutAt c l).2.2=true∧l=(cutAt c l).1++c::(cutAt c l).2.1∧c ∉ (cutAt c l).1)∨((cutAt c l).2.2=false∧c ∉ l∧(cutAt c l).1=l∧(cutAt c l).2.1=[]):=by
 induction l with
 | nil=>exact .inr ⟨rfl,by simp,rfl,rfl⟩
 | cons x l ih =>
  unfold cutAt
  by_cases h:x=c
  ·subst h
   rw[if_pos rfl]
   exact .inl ⟨rfl,rfl,by simp⟩
  ·rw[if_neg h]
   rcases ih with ⟨h1,h2,h3⟩|⟨h1,h2,h3,h4⟩
   ·exact .inl ⟨h1,by simp only[List.cons_append,List.cons.injEq,true_and];exact h2,by simp only[List.mem_cons,not_or];exact⟨Ne.symm h,h3⟩⟩
   ·exact .inr ⟨h1,by simp only[List.mem_cons,not_or];exact⟨Ne.symm h,h2⟩,by simp only[h3],h4⟩
theorem first_unique {c:UInt8} {b y:List UInt8}:∀{a x:List UInt8},a++c::b=x++c::y→c ∉ a→c ∉ x→a=x∧b=y
 | [],[],h,_,_=>by simpa using h
 | [],z::x,h,_,hx=>by
  simp only[List.nil_append,List.cons_append,List.cons.injEq] at h
  exact absurd (by rw[h.1];simp) hx
 | z::a,[],h,ha,_=>by
  simp only[List.nil_append,List.cons_append,List.cons.injEq] at h
  exact absurd (by rw[h.1];simp) ha
 | z::a,u::x,h,ha,hx=>by
  simp only[List.cons_append,List.cons.injEq] at h
  simp only[List.mem_cons,not_or] at ha hx
  obtain⟨h1,h2⟩:=first_unique h.2 ha.2 hx.2
  exact⟨by rw[h.1,h1],h2⟩

theorem boxed22 {w w1:World} {a b c d:Value} {t u:TypeId} (h:Below ((w.alloc (.cells #[a,b] t)).alloc (.cells #[c,d] u)).heap.size ((w.alloc (.cells #[a,b] t)).alloc (.cells #[c,d] u)) w1) :
  (w1.cell? ⟨w.heap.size,0,none⟩=some a∧w1.cell? ⟨w.heap.size,1,none⟩=some b∧w1.cell? ⟨w.heap.size+1,0,none⟩=some c∧w1.cell? ⟨w.heap.size+1,1,none⟩=some d) ∧
  (w1.frozen? ⟨w.heap.size,0,none⟩=false∧w1.frozen? ⟨w.heap.size,1,none⟩=false∧w1.frozen? ⟨w.heap.size+1,0,none⟩=false∧w1.frozen? ⟨w.heap.size+1,1,none⟩=false)∧w.heap.size+1<w1.heap.size∧Below w.heap.size w w1:=by
 have hs:w.heap.size+1<((w.alloc (.cells #[a,b] t)).alloc (.cells #[c,d] u)).heap.size:=by simp
 refine⟨⟨?_,?_,?_,?_⟩,⟨?_,?_,?_,?_⟩,Nat.lt_of_lt_of_le hs h.size,below_box (o:=.cells #[a,b] t) (below_box (o:=.cells #[c,d] u) h)⟩
 ·exact(h.cell (p:=⟨w.heap.size,0,none⟩) (by simp;omega)).trans (by simp[go_sem])
 ·exact(h.cell (p:=⟨w.heap.size,1,none⟩) (by simp;omega)).trans (by simp[go_sem])
 ·exact(h.cell (p:=⟨w.heap.size+1,0,none⟩) (by simp)).trans (by simp[go_sem])
 ·exact(h.cell (p:=⟨w.heap.size+1,1,none⟩) (by simp)).trans (by simp[go_sem])
 ·exact(h.frozen (p:=⟨w.heap.size,0,none⟩) (by simp;omega)).trans (by simp[go_sem])
 ·exact(h.frozen (p:=⟨w.heap.size,1,none⟩) (by simp;omega)).trans (by simp[go_sem])
 ·exact(h.frozen (p:=⟨w.heap.size+1,0,none⟩) (by simp)).trans (by simp[go_sem])
 ·exact(h.frozen (p:=⟨w.heap.size+1,1,none⟩) (by simp)).trans (by simp[go_sem])

theorem boxed2f {w w1:World} {a b:Value} {t:TypeId} (h:Below (w.alloc (.cells #[a,b] t)).heap.size (w.alloc (.cells #[a,b] t)) w1) :
  w1.frozen? ⟨w.heap.size,0,none⟩=false∧w1.frozen? ⟨w.heap.size,1,none⟩=false :=
 ⟨(h.frozen (p:=⟨w.heap.size,0,none⟩) (by simp)).trans (by simp[go_sem]),(h.frozen (p:=⟨w.heap.size,1,none⟩) (by simp)).trans (by simp[go_sem])⟩
theorem frozen_alloc_lt (w:World) (o:Obj) (p:Addr) (h:p.block<w.heap.size):(w.alloc o).frozen? p=w.frozen? p :=
 World.frozen?_of_block (w:=w) (Below.heap_alloc w o p.block h)
def winOf (l:List UInt8) (a b:List UInt8) (two:Bool):Option (Int × Int) :=
 if two then (match altSpec a,altSpec b with|some x,some y=>some (x,y)|_,_=>none)
 else if lastIs 43 l then (altSpec l.dropLast).map fun x=>(x,6000000)
 else if lastIs 45 l then (altSpec l.dropLast).map fun x=>(-200000,x)
 else (altSpec l).map fun x=>(x,x)
def winSpec (l:List UInt8):Option (Int × Int) :=
 if l=[45] then some (-200000,6000000) else winOf l (cutAt 58 l).1 (cutAt 58 l).2.1 (cutAt 58 l).2.2
theorem winSpec_eq {l a b:List UInt8} {f:Bool} (h:l≠[45]) (h2:cutAt 58 l=(a,b,f)):winSpec l=winOf l a b f:=by
 unfold winSpec;rw[if_neg h,h2]
def Near (n v:Int):Prop:=rangedB n=rangedB v∧(rangedB v=true→n=v)
theorem Near.refl (n:Int):Near n n:=⟨rfl,fun _=>rfl⟩
def WinRes (o:Option (Int × Int)) (lo hi:Int) (ok:Bool):Prop:=match o with
 | none=>ok=false
 | some v=>ok=true∧Near lo v.1∧Near hi v.2
def WinPost (s:ByteArray) (w:World) (e:Ending) (w':World):Prop:=∃lo hi ok,e=.returned (.tuple #[.agg #[.int .i64 lo,.int .i64 hi],.bool ok])∧WinRes (winSpec (bl s)) lo hi ok∧Below w.heap.size w w'
theorem winPost {s:ByteArray} {w w':World} {lo hi:Int} {ok:Bool} {o:Option (Int × Int)} (ho:winSpec (bl s)=o) (h:WinRes o lo hi ok) (hb:Below w.heap.size w w'):WinPost s w (.returned (.tuple #[.agg #[.int .i64 lo,.int .i64 hi],.bool ok])) w' :=
 ⟨lo,hi,ok,rfl,ho ▸ h,hb⟩
theorem altRes_cases {o:Option Int} {n:Int} {ok:Bool} (h:AltRes o n ok):(ok=false∧o=none)∨(ok=true∧∃v,o=some v∧Near n v):=by
 cases o with
 | none=>exact .inl ⟨h,rfl⟩
 | some v=>exact .inr ⟨h.1,v,rfl,h.2⟩
theorem winRes_two {l a b:List UInt8} {n m:Int} {x y:Bool} (h1:AltRes (altSpec a) n x) (h2:AltRes (altSpec b) m y):WinRes (winOf l a b true) n m (x&&y):=by
 unfold winOf
 rw[if_pos rfl]
 rcases altRes_cases h1 with ⟨rfl,e1⟩|⟨rfl,v,e1,n1⟩
 ·rw[e1];rfl
 ·rcases altRes_cases h2 with ⟨rfl,e2⟩|⟨rfl,u,e2,n2⟩
  ·rw[e1,e2];rfl
  ·rw[e1,e2];exact⟨rfl,n1,n2⟩
theorem winRes_up {l a b:List UInt8} {n:Int} {x:Bool} (hl:lastIs 43 l=true) (h1:AltRes (altSpec l.dropLast) n x):WinRes (winOf l a b false) n 6000000 x:=by
 unfold winOf
 rw[if_neg (by decide),if_pos hl]
 rcases altRes_cases h1 with ⟨rfl,e1⟩|⟨rfl,v,e1,n1⟩
 ·rw[e1];rfl
 ·rw[e1];exact⟨rfl,n1,Near.refl _⟩
theorem winRes_down {l a b:List UInt8} {n:Int} {x:Bool} (hl:lastIs 43 l=false) (hl2:lastIs 45 l=true) (h1:AltRes (altSpec l.dropLast) n x):WinRes (winOf l a b false) (-200000) n x:=by
 unfold winOf
 rw[if_neg (by decide),hl,if_neg (by decide),if_pos hl2]
 rcases altRes_cases h1 with ⟨rfl,e1⟩|⟨rfl,v,e1,n1⟩
 ·rw[e1];rfl
 ·rw[e1];exact⟨rfl,Near.refl _,n1⟩
theorem winRes_one {l a b:List UInt8} {n:Int} {x:Bool} (hl:lastIs 43 l=false) (hl2:lastIs 45 l=false) (h1:AltRes (altSpec l) n x):WinRes (winOf l a b false) n n x:=by
 unfold winOf
 rw[if_neg (by decide),hl,if_neg (by decide),hl2,if_neg (by decide)]
 rcases altRes_cases h1 with ⟨rfl,e1⟩|⟨rfl,v,e1,n1⟩
 ·rw[e1];rfl
 ·rw[e1];exact⟨rfl,n1,n1⟩

set_option maxHeartbeats 400000 in
theorem window_dash (s:ByteArray) (w:World) (hd:(s.toList == [45])=true) :
  Calls Tryz.prog 401 #[.string s] w (WinPost s w):=by
 have h:Hid (bl s=[45]):=by unfold Hid;rw[bl_toList,beq_iff_eq] at hd;exact hd
 go_enter Tryz.func401,Tryz.ntmps401
 go_wp2
 refine bodyPost_ret (v:=.tuple #[.agg #[.int .i64 (-200000),.int .i64 6000000],.bool true]) (by simp[results,Tryz.results401,go_sem]) rfl ?_
 exact winPost (o:=some (-200000,6000000)) (by unfold winSpec;rw[if_pos h.out]) ⟨rfl,Near.refl _,Near.refl _⟩ (((Below.refl _ _).alloc (Nat.le_refl _) _).alloc (by simp) _)
set_option maxHeartbeats 1000000 in
theorem window_else (s:ByteArray) (w:World) (E:Env w) (hs:s.size≤140737488351232) (hd:(s.toList == [45])=false) :
  Calls Tryz.prog 401 #[.string s] w (WinPost s w):=by
 have h:Hid (bl s≠[45]):=by unfold Hid;rw[bl_toList,beq_eq_false_iff_ne] at hd;exact hd
 go_enter Tryz.func401,Tryz.ntmps401
 go_wp2_with fail
 refine(cut1 s 58 _ ((E.alloc _).alloc _) (by omega)).mono ?_
 rintro e w1 ⟨a,b,f,rfl,hcut,has,hbs,hb1⟩
 have hspec:=Lib.hid (winSpec_eq h.out hcut.out)
 obtain⟨⟨k0,k1,k2,k3⟩,⟨f0,f1,f2,f3⟩,hsz,hB⟩:=boxed22 hb1
 have E1:=E.below hB
 cases f
 ·go_wp2_with fail
  refine(cutSuffix1 s 43 _ (by unfold maxLen;omega)).mono ?_
  rintro e w' ⟨r,g,rfl,hg,hr,hrs,rfl⟩
  cases g
  ·go_wp2_with fail
   refine(cutSuffix1 s 45 _ (by unfold maxLen;omega)).mono ?_
   rintro e w' ⟨r2,g2,rfl,hg2,hr2,hrs2,rfl⟩
   cases g2
   ·go_wp2_with fail
    refine(altitude_any s _ E1 hs).mono ?_
    rintro e w2 ⟨n,x,rfl,hx0,hb20⟩
    have hx:=Lib.hid hx0
    clear hx0
    have hb2:=Below.then_ hb1 hb20
    have E2:=E1.below hb20
    clear k0 k1 k2 k3 f0 f1 f2 f3 hsz hB hb20
    obtain⟨⟨k0,k1,k2,k3⟩,⟨f0,f1,f2,f3⟩,hsz,hB⟩:=boxed22 hb2
    have hres:=Lib.hid (winRes_one (a:=bl a) (b:=bl b) hg.out.symm hg2.out.symm hx.out)
    go_wp2
    refine bodyPost_ret (v:=.tuple #[.agg #[.int .i64 n,.int .i64 n],.bool x]) (by simp[results,Tryz.results401,go_sem,k0,k1,k2,k3]) rfl ?_
    exact winPost hspec.out hres.out ((hB.setCell (Nat.le_refl _) _).setCell (Nat.le_refl _) _)
   ·have hr':Hid (bl r2=(bl s).dropLast):=hr2.out
    go_wp2_with fail
    refine(altitude_any r2 _ E1 (by omega)).mono ?_
    rintro e w2 ⟨n,x,rfl,hx0,hb20⟩
    have hx:=Lib.hid hx0
    clear hx0
    have hb2:=Below.then_ hb1 hb20
    have E2:=E1.below hb20
    clear k0 k1 k2 k3 f0 f1 f2 f3 hsz hB hb20
    obtain⟨⟨k0,k1,k2,k3⟩,⟨f0,f1,f2,f3⟩,hsz,hB⟩:=boxed22 hb2
    have hres:=Lib.hid (winRes_down (a:=bl a) (b:=bl b) hg.out.symm hg2.out.symm (by rw[←hr'.out];exact hx.out))
    go_wp2
    refine bodyPost_ret (v:=.tuple #[.agg #[.int .i64 (-200000),.int .i64 n],.bool x]) (by simp[results,Tryz.results401,go_sem,k0,k1,k2,k3]) rfl ?_
    exact winPost hspec.out hres.out (((hB.setCell (p:=⟨w.heap.size+1,1,none⟩) (by simp) _).setCell (p:=⟨w.heap.size,0,none⟩) (Nat.le_refl _) _).setCell (p:=⟨w.heap.size,1,none⟩) (Nat.le_refl _) _)
  ·have hr':Hid (bl r=(bl s).dropLast):=hr.out
   go_wp2_with fail
   refine(altitude_any r _ E1 (by omega)).mono ?_
   rintro e w2 ⟨n,x,rfl,hx0,hb20⟩
   have hx:=Lib.hid hx0
   clear hx0
   have hb2:=Below.then_ hb1 hb20
   have E2:=E1.below hb20
   clear k0 k1 k2 k3 f0 f1 f2 f3 hsz hB hb20
   obtain⟨⟨k0,k1,k2,k3⟩,⟨f0,f1,f2,f3⟩,hsz,hB⟩:=boxed22 hb2
   have hres:=Lib.hid (winRes_up (a:=bl a) (b:=bl b) hg.out.symm (by rw[←hr'.out];exact hx.out))
   go_wp2
   refine bodyPost_ret (v:=.tuple #[.agg #[.int .i64 n,.int .i64 6000000],.bool x]) (by simp[results,Tryz.results401,go_sem,k0,k1,k2,k3]) rfl ?_
   exact winPost hspec.out hres.out (((hB.setCell (p:=⟨w.heap.size+1,0,none⟩) (by simp) _).setCell (p:=⟨w.heap.size,0,none⟩) (Nat.le_refl _) _).setCell (p:=⟨w.heap.size,1,none⟩) (Nat.le_refl _) _)
 ·go_wp2_with fail
  refine(altitude_any a _ E1 (by omega)).mono ?_
  rintro e w2 ⟨n,x,rfl,hx0,hb20⟩
  have hx:=Lib.hid hx0
  clear hx0
  have hb2:=Below.then_ hb1 hb20
  have E2:=E1.below hb20
  clear k0 k1 k2 k3 f0 f1 f2 f3 hsz hB hb20
  obtain⟨⟨k0,k1,k2,k3⟩,⟨f0,f1,f2,f3⟩,hsz,hB⟩:=boxed22 hb2
  go_wp2_with fail
  refine(altitude_any b _ E2 (by omega)).mono ?_
  rintro e w3 ⟨m,y,rfl,hy0,hb30⟩
  have hy:=Lib.hid hy0
  clear hy0
  have hb3:=Below.then_ hb2 hb30
  have E3:=E2.below hb30
  clear k0 k1 k2 k3 f0 f1 f2 f3 hsz hB hb30
  obtain⟨⟨k0,k1,k2,k3⟩,⟨f0,f1,f2,f3⟩,hsz,hB⟩:=boxed22 hb3
  have hr:=Lib.hid (winRes_two (l:=bl s) hx.out hy.out)
  cases x
  ·go_wp2
   refine bodyPost_ret (v:=.tuple #[.agg #[.int .i64 n,.int .i64 m],.bool false]) (by simp[results,Tryz.results401,go_sem,k0,k1,k2,k3]) rfl ?_
   exact winPost hspec.out hr.out ((hB.setCell (Nat.le_refl _) _).setCell (Nat.le_refl _) _)
  ·go_wp2
   refine bodyPost_ret (v:=.tuple #[.agg #[.int .i64 n,.int .i64 m],.bool y]) (by simp[results,Tryz.results401,go_sem,k0,k1,k2,k3]) rfl ?_
   exact winPost hspec.out hr.out ((hB.setCell (Nat.le_refl _) _).setCell (Nat.le_refl _) _)
theorem window_any (s:ByteArray) (w:World) (E:Env w) (hs:s.size≤140737488351232) :
  Calls Tryz.prog 401 #[.string s] w (WinPost s w):=by
 cases h:(s.toList == [45])
 ·exact window_else s w E hs h
 ·exact window_dash s w h

def pwLo (l:List UInt8) (o:Option (Int × Int)):Int:=match o with
 | some (a,b)=>if rangedB a&&rangedB b&&decide (a≤b)&&(winOut a b == l) then a else 0
 | none=>0
def pwHi (l:List UInt8) (o:Option (Int × Int)):Int:=match o with
 | some (a,b)=>if rangedB a&&rangedB b&&decide (a≤b)&&(winOut a b == l) then b else 0
 | none=>0
def pwErr (l:List UInt8) (o:Option (Int × Int)):Int:=match o with
 | some (a,b)=>if rangedB a&&rangedB b then (if a≤b then (if winOut a b == l then 0 else 4) else 9) else 2
 | none=>4
def PwPost (s:ByteArray) (w:World) (e:Ending) (w':World):Prop :=
 e=.returned (.tuple #[.agg #[.int .i64 (pwLo (bl s) (winSpec (bl s))),.int .i64 (pwHi (bl s) (winSpec (bl s)))],.int .i64 (pwErr (bl s) (winSpec (bl s)))])∧Below w.heap.size w w'
theorem pwPost {s:ByteArray} {w w':World} {lo hi er:Int} {o:Option (Int × Int)} (ho:winSpec (bl s)=o) (h1:lo=pwLo (bl s) o) (h2:hi=pwHi (bl s) o) (h3:er=pwErr (bl s) o) (hb:Below w.heap.size w w') :
  PwPost s w (.returned (.tuple #[.agg #[.int .i64 lo,.int .i64 hi],.int .i64 er])) w':=by
 unfold PwPost
 rw[ho,←h1,←h2,←h3]
 exact⟨rfl,hb⟩
theorem pw_range {l:List UInt8} {a b:Int} (h:(rangedB a&&rangedB b)=false):0=pwLo l (some (a,b))∧0=pwHi l (some (a,b))∧2=pwErr l (some (a,b)):=by
 unfold pwLo pwHi pwErr;simp only[h];exact⟨rfl,rfl,rfl⟩
theorem pw_order {l:List UInt8} {a b:Int} (h1:rangedB a=true) (h2:rangedB b=true) (h:b<a):0=pwLo l (some (a,b))∧0=pwHi l (some (a,b))∧9=pwErr l (some (a,b)):=by
 unfold pwLo pwHi pwErr
 simp only[h1,h2,decide_eq_false (show ¬a≤b by omega),if_neg (show ¬a≤b by omega)];exact⟨rfl,rfl,rfl⟩
theorem pw_form {l:List UInt8} {a b:Int} (h1:rangedB a=true) (h2:rangedB b=true) (h:a≤b) (h3:¬winOut a b=l):0=pwLo l (some (a,b))∧0=pwHi l (some (a,b))∧4=pwErr l (some (a,b)):=by
 have h4:(winOut a b == l)=false:=by rw[beq_eq_false_iff_ne];exact h3
 unfold pwLo pwHi pwErr
 simp only[h1,h2,decide_eq_true h,if_pos h,h4];exact⟨rfl,rfl,rfl⟩
theorem pw_ok {l:List UInt8} {a b:Int} (h1:rangedB a=true) (h2:rangedB b=true) (h:a≤b) (h3:winOut a b=l):a=pwLo l (some (a,b))∧b=pwHi l (some (a,b))∧0=pwErr l (some (a,b)):=by
 have h4:(winOut a b == l)=true:=by rw[beq_iff_eq];exact h3
 unfold pwLo pwHi pwErr
 simp only[h1,h2,decide_eq_true h,if_pos h,h4];exact⟨rfl,rfl,rfl⟩

set_option maxHeartbeats 1000000 in
theorem parseWindow_any (s:ByteArray) (w:World) (E:Env w) (hs:s.size≤140737488351232) :
  Calls Tryz.prog 372 #[.string s] w (PwPost s w):=by
 go_enter Tryz.func372,Tryz.ntmps372
 go_wp2_with fail
 refine(window_any s _ (E.alloc _) hs).mono ?_
 rintro e w1 ⟨lo,hi,ok,rfl,hres,hb1⟩
 have E1:=(E.alloc _).below hb1
 have hres':(ok=false∧Hid (winSpec (bl s)=none))∨(ok=true∧∃a b,Hid (winSpec (bl s)=some (a,b))∧Hid (Near lo a)∧Hid (Near hi b)):=by
  cases h:winSpec (bl s) with
  | none=>rw[h] at hres;exact .inl ⟨hres,rfl⟩
  | some v=>rw[h] at hres;exact .inr ⟨hres.1,v.1,v.2,rfl,hres.2.1,hres.2.2⟩
 clear hres
 obtain⟨k0,k1⟩:=boxed2 hb1
 obtain⟨f0,f1⟩:=boxed2f hb1
 have hB:=below_box hb1
 have hN:w.heap.size<w1.heap.size:=Nat.lt_of_lt_of_le (by simp) hb1.size
 rcases hres' with ⟨rfl,ho⟩|⟨rfl,a,b,ho,hla,hib⟩
 ·go_wp2
  refine bodyPost_ret (v:=.tuple #[.agg #[.int .i64 0,.int .i64 0],.int .i64 4]) (by simp[results,Tryz.results372,go_sem,k0,k1,hN]) rfl ?_
  exact pwPost ho.out rfl rfl rfl ((((hB.setCell (p:=⟨w.heap.size,0,none⟩) (Nat.le_refl _) _).setCell (p:=⟨w.heap.size,1,none⟩) (Nat.le_refl _) _)).alloc (by simp[World.setCell];omega) _)
 ·go_wp2_with fail
  refine(ranged_any lo _).mono ?_
  rintro e w' ⟨rfl,rfl⟩
  rcases hr1:rangedB lo with _|_
  ·have h1:=Lib.hid (pw_range (l:=bl s) (a:=a) (b:=b) (by rw[←hla.out.1,hr1];rfl))
   clear hr1
   go_wp2
   refine bodyPost_ret (v:=.tuple #[.agg #[.int .i64 0,.int .i64 0],.int .i64 2]) (by simp[results,Tryz.results372,go_sem,k0,k1,hN]) rfl ?_
   exact pwPost ho.out h1.out.1 h1.out.2.1 h1.out.2.2 ((((hB.setCell (p:=⟨w.heap.size,0,none⟩) (Nat.le_refl _) _).setCell (p:=⟨w.heap.size,1,none⟩) (Nat.le_refl _) _)).alloc (by simp[World.setCell];omega) _)
  ·have hra:Hid (rangedB a=true):=hla.out.1.symm.trans hr1
   have hloa:lo=a:=hla.out.2 hra.out
   clear hr1 hla
   subst hloa
   go_wp2_with fail
   refine(ranged_any hi _).mono ?_
   rintro e w' ⟨rfl,rfl⟩
   rcases hr2:rangedB hi with _|_
   ·have h1:=Lib.hid (pw_range (l:=bl s) (a:=lo) (b:=b) (by rw[←hib.out.1,hr2,Bool.and_false]))
    clear hr2
    go_wp2
    refine bodyPost_ret (v:=.tuple #[.agg #[.int .i64 0,.int .i64 0],.int .i64 2]) (by simp[results,Tryz.results372,go_sem,k0,k1,hN]) rfl ?_
    exact pwPost ho.out h1.out.1 h1.out.2.1 h1.out.2.2 ((((hB.setCell (p:=⟨w.heap.size,0,none⟩) (Nat.le_refl _) _).setCell (p:=⟨w.heap.size,1,none⟩) (Nat.le_refl _) _)).alloc (by simp[World.setCell];omega) _)
   ·have hrb:Hid (rangedB b=true):=hib.out.1.symm.trans hr2
    have hhib:hi=b:=hib.out.2 hrb.out
    clear hr2 hib
    subst hhib
    by_cases hord:hi<lo
    ·have h1:=Lib.hid (pw_order (l:=bl s) hra.out hrb.out hord)
     go_wp2
     refine bodyPost_ret (v:=.tuple #[.agg #[.int .i64 0,.int .i64 0],.int .i64 9]) (by simp[results,Tryz.results372,go_sem,k0,k1,hN]) rfl ?_
     exact pwPost ho.out h1.out.1 h1.out.2.1 h1.out.2.2 ((((hB.setCell (p:=⟨w.heap.size,0,none⟩) (Nat.le_refl _) _).setCell (p:=⟨w.heap.size,1,none⟩) (Nat.le_refl _) _)).alloc (by simp[World.setCell];omega) _)
    ·have hord':lo≤hi:=by omega
     clear hord
     go_wp2_with fail
     refine(winText_any lo hi _ (E1.alloc _)).mono ?_
     rintro e w2 ⟨t,rfl,ht,hb2⟩
     obtain⟨k2,k3⟩:=boxed2 hb2
     have m0:w2.cell? ⟨w.heap.size,0,none⟩=some (.int .i64 0):=(hb2.cell (p:=⟨w.heap.size,0,none⟩) (by simp;omega)).trans ((World.cell?_alloc_lt w1 _ ⟨w.heap.size,0,none⟩ hN).trans k0)
     have m1:w2.cell? ⟨w.heap.size,1,none⟩=some (.int .i64 0):=(hb2.cell (p:=⟨w.heap.size,1,none⟩) (by simp;omega)).trans ((World.cell?_alloc_lt w1 _ ⟨w.heap.size,1,none⟩ hN).trans k1)
     have n0:w2.frozen? ⟨w.heap.size,0,none⟩=false:=(hb2.frozen (p:=⟨w.heap.size,0,none⟩) (by simp;omega)).trans ((frozen_alloc_lt w1 _ ⟨w.heap.size,0,none⟩ hN).trans f0)
     have n1:w2.frozen? ⟨w.heap.size,1,none⟩=false:=(hb2.frozen (p:=⟨w.heap.size,1,none⟩) (by simp;omega)).trans ((frozen_alloc_lt w1 _ ⟨w.heap.size,1,none⟩ hN).trans f1)
     have hB2:Below w.heap.size w w2:=(hB.alloc (Nat.le_of_lt hN) _).trans (hb2.mono (by simp;omega))
     clear k0 k1 f0 f1
     by_cases hq:winOut lo hi=bl s
     ·have e1:(t.toList == s.toList)=true:=by rw[bl_toList,bl_toList,ht.out,hq,beq_iff_eq]
      have h1:=Lib.hid (pw_ok hra.out hrb.out hord' hq)
      clear hq
      go_wp2
      refine bodyPost_ret (v:=.tuple #[.agg #[.int .i64 lo,.int .i64 hi],.int .i64 0]) (by simp[results,Tryz.results372,go_sem,m0,m1,k2,k3,hN]) rfl ?_
      exact pwPost ho.out h1.out.1 h1.out.2.1 h1.out.2.2 ((hB2.setCell (p:=⟨w.heap.size,0,none⟩) (Nat.le_refl _) _).setCell (p:=⟨w.heap.size,1,none⟩) (Nat.le_refl _) _)
     ·have e1:(t.toList == s.toList)=false:=by rw[bl_toList,bl_toList,ht.out,beq_eq_false_iff_ne];exact hq
      have h1:=Lib.hid (pw_form hra.out hrb.out hord' hq)
      clear hq
      go_wp2
      refine bodyPost_ret (v:=.tuple #[.agg #[.int .i64 0,.int .i64 0],.int .i64 4]) (by simp[results,Tryz.results372,go_sem,m0,m1,hN]) rfl ?_
      exact pwPost ho.out h1.out.1 h1.out.2.1 h1.out.2.2 ((hB2.setCell (p:=⟨w.heap.size,0,none⟩) (Nat.le_refl _) _).setCell (p:=⟨w.heap.size,1,none⟩) (Nat.le_refl _) _)
end Go.Proofs.YtgmehlgfilpleaaGreatDoor
