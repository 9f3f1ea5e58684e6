/-
  Several texts as one.
-/
import Derived.Laws.BitsAllLaws
import Derived.Test.YtgmehlgfilpleaaGreatDoorMG02
import Derived.Test.YtgmehlgfilpleaaGreatDoorMG01
import Derived.Test.YtgmehlgfilpleaaGreatDoorLegC
namespace Go.Proofs.YtgmehlgfilpleaaGreatDoor
set_option linter.unusedVariables false
set_option linter.unusedSimpArgs false
abbrev RS:=Nat × Bool
def tkS (st n:Nat) (s:RS):RS:=if s.2=true∨st-s.1<n then (s.1,true) else (s.1+n,false)
def tkV (bs:List UInt8) (st n:Nat) (s:RS):List UInt8:=if s.2=true∨st-s.1<n then [] else (bs.drop s.1).take n
def byV (bs:List UInt8) (st:Nat) (s:RS):UInt8:=(tkV bs st 1 s).headD 0
def loN:List UInt8→Nat
 | []=>0
 | b::t=>b.toNat+256*loN t
def n8V (bs:List UInt8) (st:Nat) (s:RS):Int:=IntKind.i64.wrap (loN (tkV bs st 8 s))
def txS (bs:List UInt8) (st:Nat) (s:RS):RS:=tkS st (byV bs st s).toNat (tkS st 1 s)
def txV (bs:List UInt8) (st:Nat) (s:RS):List UInt8:=tkV bs st (byV bs st s).toNat (tkS st 1 s)
def n8S (st:Nat) (s:RS):RS:=tkS st 8 s
def fiS (bs:List UInt8) (st:Nat) (s:RS):RS:=n8S st (n8S st (n8S st (n8S st (tkS st 1 (txS bs st (txS bs st s))))))
def ptS (bs:List UInt8) (st:Nat) (s:RS):RS:=tkS st 1 (n8S st (n8S st (txS bs st s)))
def ovS (bs:List UInt8) (st:Nat) (s:RS):RS:=if 1<(byV bs st s).toNat then ((tkS st 1 s).1,true) else tkS st 1 s
def n8x (st:Nat):Nat→RS→RS
 | 0,s=>s
 | k+1,s=>n8x st k (n8S st s)
def leS (bs:List UInt8) (st:Nat) (s:RS):RS:=n8x st 8 (ovS bs st (tkS st 1 (txS bs st (txS bs st (tkS st 1 s)))))
def itS (one:RS→RS):Nat→RS→RS
 | 0,s=>s
 | n+1,s=>if s.2=true then s else itS one n (one s)
def lsN (bs:List UInt8) (st:Nat) (s:RS):Nat:=loN (tkV bs st 2 s)
def lsS (bs:List UInt8) (st:Nat) (one:RS→RS) (s:RS):RS:=itS one (lsN bs st s) (tkS st 2 s)
def awS (bs:List UInt8) (st:Nat) (s:RS):RS:=lsS bs st (ptS bs st) (txS bs st s)
def imPaS (bs:List UInt8) (st:Nat) (s:RS):RS:=lsS bs st (leS bs st) (txS bs st (tkS st 1 s))
def prS (bs:List UInt8) (st:Nat) (s:RS):RS:=lsS bs st (imPaS bs st) (tkS st 1 (txS bs st (txS bs st s)))
def hdS (bs:List UInt8) (st:Nat) (s:RS):RS:=n8x st 5 (txS bs st s)
structure ImHd where
 nm:List UInt8
 cy:Int
 fr:Int
 tu:Int
 la:Int
 lo:Int
def hd0:ImHd:=⟨[],0,0,0,0,0⟩
def hdV (bs:List UInt8) (st:Nat) (s:RS):ImHd:=⟨txV bs st s,n8V bs st (txS bs st s),n8V bs st (n8x st 1 (txS bs st s)),n8V bs st (n8x st 2 (txS bs st s)),n8V bs st (n8x st 3 (txS bs st s)),n8V bs st (n8x st 4 (txS bs st s))⟩
def secS (bs:List UInt8) (st tag:Nat) (s:RS):RS :=
 if tag=1 then hdS bs st s else if tag=2 then lsS bs st (fiS bs st) s else if tag=3 then lsS bs st (awS bs st) s else lsS bs st (prS bs st) s
def secN (bs:List UInt8) (st tag:Nat) (s:RS):Nat:=if tag=1 then 1 else lsN bs st s
abbrev Sec:=Nat × Nat × Nat × Nat
def rdG (bs:List UInt8):Nat→Nat→Nat→Option (List Sec)
 | 0,_,a=>if a=bs.length then some [] else none
 | k+1,tag,a =>
  if (tkS bs.length 4 (tkS bs.length 1 (a,false))).2=true∨(byV bs bs.length (a,false)).toNat≠tag∨bs.length-(a+5)<loN (tkV bs bs.length 4 (a+1,false)) then none
  else if (secS bs (a+5+loN (tkV bs bs.length 4 (a+1,false))) tag (a+5,false)).2=true∨(secS bs (a+5+loN (tkV bs bs.length 4 (a+1,false))) tag (a+5,false)).1≠a+5+loN (tkV bs bs.length 4 (a+1,false)) then none
  else (rdG bs k (tag+1) (a+5+loN (tkV bs bs.length 4 (a+1,false)))).map ((tag,a+5,loN (tkV bs bs.length 4 (a+1,false)),secN bs (a+5+loN (tkV bs bs.length 4 (a+1,false))) tag (a+5,false)) :: ·)
def magicL:List UInt8:=[70,68,66,49]
def imHdF (bs:List UInt8):ImHd:=hdV bs (9+loN (tkV bs bs.length 4 (5,false))) (9,false)
def rdF (bs:List UInt8):Option (ImHd × List Sec):=if bs.take 4=magicL then (rdG bs 4 1 4).map fun l=>(imHdF bs,l) else none
theorem tkS_no {st n a:Nat} {b:Bool} (h:b=true∨st-a<n):tkS st n (a,b)=(a,true):=by unfold tkS;rw[if_pos h]
theorem tkS_yes {st n a:Nat} (h:¬st-a<n):tkS st n (a,false)=(a+n,false):=by unfold tkS;rw[if_neg (by simpa using h)]
theorem tkV_no {bs:List UInt8} {st n a:Nat} {b:Bool} (h:b=true∨st-a<n):tkV bs st n (a,b)=[]:=by unfold tkV;rw[if_pos h]
theorem tkV_yes {bs:List UInt8} {st n a:Nat} (h:¬st-a<n):tkV bs st n (a,false)=(bs.drop a).take n:=by unfold tkV;rw[if_neg (by simpa using h)]
theorem tkV_len {bs:List UInt8} {st n:Nat} {s:RS}:(tkV bs st n s).length≤n:=by
 unfold tkV;split
 ·simp
 ·rw[List.length_take];omega
theorem loN_lt:∀(l:List UInt8),loN l<256^l.length
 | []=>by simp[loN]
 | b::t=>by
  have h1:=b.toNat_lt
  have h2:=loN_lt t
  show b.toNat+256*loN t<256^(t.length+1)
  rw[Nat.pow_succ];omega
theorem loN_snoc (l:List UInt8) (b:UInt8):loN (l++[b])=loN l+b.toNat*256^l.length:=by
 induction l with
 | nil=>simp[loN]
 | cons c l ih =>
  show c.toNat+256*loN (l++[b])=c.toNat+256*loN l+b.toNat*256^(l.length+1)
  rw[ih,Nat.pow_succ,Nat.mul_add]
  rw[show 256*(b.toNat*256^l.length)=b.toNat*(256^l.length*256) by rw[Nat.mul_left_comm,Nat.mul_comm 256]]
  omega
end Go.Proofs.YtgmehlgfilpleaaGreatDoor
namespace Go.Proofs.YtgmehlgfilpleaaGreatDoor
open Go.RowKit
set_option linter.unusedVariables false
set_option linter.unusedSimpArgs false
def u8c (b:UInt8):Value:=.int .u8 (b.toNat:Int)
def BsA (w:World) (g o:Nat) (bs:List UInt8):Prop:=g<w.heap.size∧∀j b,bs[j]? = some b→w.cell? ⟨g,o+j,none⟩=some (u8c b)
theorem BsA.frm {S:Nat→Prop} {w w':World} {g o:Nat} {bs:List UInt8} (h:BsA w g o bs) (hf:Frm S w w') (hs:¬S g):BsA w' g o bs :=
 ⟨Nat.lt_of_lt_of_le h.1 hf.size,fun j b hb=>(World.cell?_of_block (w:=w) (a:=⟨g,o+j,none⟩) (hf.block g h.1 hs)).trans (h.2 j b hb)⟩
theorem BsA.below {w w':World} {g o:Nat} {bs:List UInt8} (h:BsA w g o bs) (hb:Below w.heap.size w w'):BsA w' g o bs:=h.frm (S:=fun _=>False) (Frm.of_below hb) id
theorem BsA.cell {w:World} {g o:Nat} {bs:List UInt8} (h:BsA w g o bs) {j:Nat} (hj:j<bs.length):w.cell? ⟨g,o+j,none⟩=some (.int .u8 (bs[j].toNat:Int)):=h.2 j _ (List.getElem?_eq_getElem hj)
theorem BsA.drop {w:World} {g o:Nat} {bs:List UInt8} (h:BsA w g o bs) (i:Nat):BsA w g (o+i) (bs.drop i) :=
 ⟨h.1,fun j b hb=>by rw[List.getElem?_drop] at hb;rw[Nat.add_assoc];exact h.2 _ b hb⟩
theorem BsA.take {w:World} {g o:Nat} {bs:List UInt8} (h:BsA w g o bs) (i:Nat):BsA w g o (bs.take i) :=
 ⟨h.1,fun j b hb=>by
  rw[List.getElem?_take] at hb
  split at hb
  ·exact h.2 _ b hb
  ·cases hb⟩
theorem BsA.nil {w:World} {g o:Nat} (h:g<w.heap.size):BsA w g o []:=⟨h,fun j b hb=>by simp at hb⟩
def subV (g o c i k:Nat):Value:=.slice (some ⟨g,if c=i then o else o+i,none⟩) k (c-i)
def BsV (w:World) (v:Value) (bs:List UInt8):Prop:=∃A c,v=.slice A bs.length c∧bs.length≤c∧c≤maxLen∧(0<bs.length→∃g o,A=some ⟨g,o,none⟩∧BsA w g o bs)
theorem BsV.nil (w:World):BsV w (.slice none 0 0) []:=⟨none,0,rfl,Nat.le_refl _,by unfold maxLen;omega,fun h=>absurd h (by simp)⟩
theorem BsV.sub {w:World} {g o c i k:Nat} {bs:List UInt8} (h:BsA w g o bs) (hc:bs.length≤c) (hm:c≤maxLen) (hk:i+k≤bs.length):BsV w (subV g o c i k) ((bs.drop i).take k):=by
 have hl:((bs.drop i).take k).length=k:=by rw[List.length_take,List.length_drop];omega
 unfold subV
 refine⟨some ⟨g,if c=i then o else o+i,none⟩,c-i,by rw[hl],by rw[hl];omega,by omega,fun h0 => ?_⟩
 rw[hl] at h0
 rw[if_neg (by omega)]
 exact⟨g,o+i,rfl,(h.drop i).take k⟩
theorem BsV.frm {S:Nat→Prop} {w w':World} {v:Value} {bs:List UInt8} (h:BsV w v bs) (hf:Frm S w w') (hs:∀g o n c,v=.slice (some ⟨g,o,none⟩) n c→¬S g):BsV w' v bs:=by
 obtain⟨A,c,rfl,hc,hm,hx⟩:=h
 refine⟨A,c,rfl,hc,hm,fun h0 => ?_⟩
 obtain⟨g,o,rfl,hb⟩:=hx h0
 exact⟨g,o,rfl,hb.frm hf (hs g o _ _ rfl)⟩
theorem BsV.below {w w':World} {v:Value} {bs:List UInt8} (h:BsV w v bs) (hb:Below w.heap.size w w'):BsV w' v bs:=h.frm (S:=fun _=>False) (Frm.of_below hb) (fun _ _ _ _ _=>id)
def rdPc (gb ob n c st:Nat) (s:RS):Array Value := #[.slice (some ⟨gb,ob,none⟩) n c,.int .i64 (s.1:Int),.int .i64 (st:Int),.bool s.2]
structure RdP (g gb ob c st:Nat) (bs:List UInt8) (s:RS) (w:World):Prop where
 bx:Bx g (rdPc gb ob bs.length c st s) 291 w
 by_:BsA w gb ob bs
 ne:gb≠g
 at_:s.1≤st
 st_:st≤bs.length
 cap:bs.length≤c
 mx:c≤maxLen
theorem RdP.keep {S:Nat→Prop} {g gb ob c st:Nat} {bs:List UInt8} {s:RS} {w w':World} (h:RdP g gb ob c st bs s w) (hf:Frm S w w') (h1:¬S g) (h2:¬S gb):RdP g gb ob c st bs s w' :=
 ⟨(hf.block g h.bx.lt h1).trans h.bx,h.by_.frm hf h2,h.ne,h.at_,h.st_,h.cap,h.mx⟩
theorem RdP.below {g gb ob c st:Nat} {bs:List UInt8} {s:RS} {w w':World} (h:RdP g gb ob c st bs s w) (hb:Below w.heap.size w w'):RdP g gb ob c st bs s w':=h.keep (S:=fun _=>False) (Frm.of_below hb) id id
theorem RdP.to {g gb ob c st:Nat} {bs:List UInt8} {s s':RS} {w w':World} (h:RdP g gb ob c st bs s w) (hf:Frm (· = g) w w') (hb:Bx g (rdPc gb ob bs.length c st s') 291 w') (ha:s'.1≤st):RdP g gb ob c st bs s' w' :=
 ⟨hb,h.by_.frm hf h.ne,h.ne,ha,h.st_,h.cap,h.mx⟩
theorem RdP.lt {g gb ob c st:Nat} {bs:List UInt8} {s:RS} {w:World} (h:RdP g gb ob c st bs s w):g<w.heap.size:=h.bx.lt
structure RdPTo (g gb ob c st:Nat) (bs:List UInt8) (s':RS) (w w':World):Prop where
 r:RdP g gb ob c st bs s' w'
 f:Frm (· = g) w w'
theorem RdPTo.then_ {g gb ob c st:Nat} {bs:List UInt8} {s s':RS} {w w1 w2:World} (h:RdPTo g gb ob c st bs s w w1) (k:RdPTo g gb ob c st bs s' w1 w2):RdPTo g gb ob c st bs s' w w2:=⟨k.r,h.f.trans k.f⟩
theorem frm_set (w:World) (g j:Nat) (u:Value):Frm (· = g) w (w.setCell ⟨g,j,none⟩ u) :=
 ⟨rfl,rfl,rfl,by simp,fun k hk hn=>heap_setCell_other w ⟨g,j,none⟩ k u (fun e=>hn (by simpa using e))⟩
def stB (r:Int):Int:=if (bits .and .u32 r 1 == 1)=true then bits .xor .u32 (r/2) 3988292384 else r/2
def stN:Nat→Int→Int
 | 0,r=>r
 | k+1,r=>stB (stN k r)
def stF (r:Int) (b:UInt8):Int:=stN 8 (bits .xor .u32 r (b.toNat:Int))
def crG (r:Int) (bs:List UInt8):Int:=bs.foldl stF r
def crcF (bs:List UInt8):Int:=bits .xor .u32 IntKind.u32.max (crG 4294967295 bs)
theorem xor32_bd (a b:Int) (h1:0≤a) (h2:a<4294967296) (h3:0≤b) (h4:b<4294967296):0≤bits .xor .u32 a b∧bits .xor .u32 a b<4294967296:=by
 rw[u32_xor a b h1 h2 h3 h4]
 have:a.toNat ^^^ b.toNat<2^32:=Nat.xor_lt_two_pow (by omega) (by omega)
 omega
theorem stB_bd {r:Int} (h:0≤r∧r<4294967296):0≤stB r∧stB r<4294967296:=by
 unfold stB;split
 ·exact xor32_bd _ _ (by omega) (by omega) (by omega) (by omega)
 ·omega
theorem stN_bd:∀(k:Nat) {r:Int},0≤r∧r<4294967296→0≤stN k r∧stN k r<4294967296
 | 0,_,h=>h
 | k+1,_,h=>stB_bd (stN_bd k h)
theorem stF_bd {r:Int} (b:UInt8) (h:0≤r∧r<4294967296):0≤stF r b∧stF r b<4294967296:=stN_bd 8 (xor32_bd _ _ h.1 h.2 (by omega) (by have:=b.toNat_lt;omega))
theorem crG_bd:∀(bs:List UInt8) {r:Int},0≤r∧r<4294967296→0≤crG r bs∧crG r bs<4294967296
 | [],_,h=>h
 | b::bs,_,h=>crG_bd bs (stF_bd b h)
theorem crG_snoc (r:Int) (bs:List UInt8) (k:Nat) (hk:k<bs.length):crG r (bs.take (k+1))=stF (crG r (bs.take k)) bs[k]:=by
 unfold crG;rw[List.take_succ_eq_append_getElem hk,List.foldl_append];rfl
theorem crcF_bd (bs:List UInt8):0≤crcF bs∧crcF bs<4294967296:=by
 have:=crG_bd bs (r:=4294967295) (by omega)
 unfold crcF
 exact xor32_bd _ _ (by decide) (by decide) this.1 this.2
set_option maxRecDepth 100000 in
set_option maxHeartbeats 4000000 in
theorem cstep_any (r:Int) (b:UInt8) (w:World) (h0:0≤r) (h1:r<4294967296) :
  Calls Tryz.prog 301 #[.int .u32 r,.int .u8 (b.toNat:Int)] w fun e w'=>e=.returned (.int .u32 (stF r b))∧w=w':=by
 obtain⟨B,hB⟩:∃B:Int,(b.toNat:Int)=B:=⟨_,rfl⟩
 have hb0:0≤B:=by omega
 have hb1:B<256:=by have:=b.toNat_lt;omega
 have HR:Hid (stF r b=stN 8 (bits .xor .u32 r B)):=by unfold Hid stF;rw[hB]
 rw[HR.out,hB]
 clear HR hB b
 obtain⟨x,hx⟩:∃x,bits .xor .u32 r B=x:=⟨_,rfl⟩
 have hxb:=xor32_bd r B h0 h1 hb0 (by omega)
 rw[hx] at hxb
 have HX:=Lib.hid hx
 rw[hx]
 clear hx
 go_enter Tryz.func301,Tryz.ntmps301
 go_wp2
 rw[HX.out]
 go_loopw [0,9] (fun rv iv wr=>∃k:Nat,k≤8∧iv=.int .i64 (k:Int)∧rv=.int .u32 (stN k x)∧wr=w) (fun _ iv _=>8-(intOf iv).toNat)
 case atStart=>exact⟨0,by omega,by first|rfl|go_num,rfl,by trivial⟩
 case round =>
  obtain⟨k,hk,rfl,rfl,rfl⟩:=hrel
  obtain⟨y,hy⟩:∃y,stN k x=y:=⟨_,rfl⟩
  have hyb:=stN_bd k hxb
  have hn:Hid (stN (k+1) x=stB y):=by unfold Hid;rw[←hy];rfl
  rw[hy] at hyb ⊢
  obtain⟨hy0,hy1⟩:=hyb
  have HY:=Lib.hid hy
  clear hy
  rcases Nat.lt_or_ge k 8 with hk8|hk8
  ·cases ht:(bits .and .u32 y 1 == 1) with
   | true =>
    have HN:Hid (stN (k+1) x=bits .xor .u32 (y/2) 3988292384):=by unfold Hid;rw[hn.out];unfold stB;rw[if_pos ht]
    go_wp2
    go_roundw
    case rel=>exact⟨k+1,by omega,by go_num,by rw[HN.out],by trivial⟩
    case measure=>simp[intOf];omega
   | false =>
    have HN:Hid (stN (k+1) x=y/2):=by unfold Hid;rw[hn.out];unfold stB;rw[if_neg (by rw[ht];exact Bool.false_ne_true)]
    go_wp2
    go_roundw
    case rel=>exact⟨k+1,by omega,by go_num,by rw[HN.out],by trivial⟩
    case measure=>simp[intOf];omega
  ·have hk9:k=8:=by omega
   subst hk9
   go_wp2
   go_ret
   rw[HY.out]
   exact⟨rfl,rfl⟩
set_option maxRecDepth 100000 in
set_option maxHeartbeats 4000000 in
theorem rcstep_any (r:Int) (b:UInt8) (w:World) (h0:0≤r) (h1:r<4294967296) :
  Calls Tryz.prog 351 #[.int .u32 r,.int .u8 (b.toNat:Int)] w fun e w'=>e=.returned (.int .u32 (stF r b))∧w=w':=by
 obtain⟨B,hB⟩:∃B:Int,(b.toNat:Int)=B:=⟨_,rfl⟩
 have hb0:0≤B:=by omega
 have hb1:B<256:=by have:=b.toNat_lt;omega
 have HR:Hid (stF r b=stN 8 (bits .xor .u32 r B)):=by unfold Hid stF;rw[hB]
 rw[HR.out,hB]
 clear HR hB b
 obtain⟨x,hx⟩:∃x,bits .xor .u32 r B=x:=⟨_,rfl⟩
 have hxb:=xor32_bd r B h0 h1 hb0 (by omega)
 rw[hx] at hxb
 have HX:=Lib.hid hx
 rw[hx]
 clear hx
 go_enter Tryz.func351,Tryz.ntmps351
 go_wp2
 rw[HX.out]
 go_loopw [0,5] (fun rv iv wr=>∃k:Nat,k≤8∧iv=.int .i64 (k:Int)∧rv=.int .u32 (stN k x)∧wr=w) (fun _ iv _=>8-(intOf iv).toNat)
 case atStart=>exact⟨0,by omega,by first|rfl|go_num,rfl,by trivial⟩
 case round =>
  obtain⟨k,hk,rfl,rfl,rfl⟩:=hrel
  obtain⟨y,hy⟩:∃y,stN k x=y:=⟨_,rfl⟩
  have hyb:=stN_bd k hxb
  have hn:Hid (stN (k+1) x=stB y):=by unfold Hid;rw[←hy];rfl
  rw[hy] at hyb ⊢
  obtain⟨hy0,hy1⟩:=hyb
  have HY:=Lib.hid hy
  clear hy
  rcases Nat.lt_or_ge k 8 with hk8|hk8
  ·cases ht:(bits .and .u32 y 1 == 1) with
   | true =>
    have HN:Hid (stN (k+1) x=bits .xor .u32 (y/2) 3988292384):=by unfold Hid;rw[hn.out];unfold stB;rw[if_pos ht]
    go_wp2
    go_roundw
    case rel=>exact⟨k+1,by omega,by go_num,by rw[HN.out],by trivial⟩
    case measure=>simp[intOf];omega
   | false =>
    have HN:Hid (stN (k+1) x=y/2):=by unfold Hid;rw[hn.out];unfold stB;rw[if_neg (by rw[ht];exact Bool.false_ne_true)]
    go_wp2
    go_roundw
    case rel=>exact⟨k+1,by omega,by go_num,by rw[HN.out],by trivial⟩
    case measure=>simp[intOf];omega
  ·have hk9:k=8:=by omega
   subst hk9
   go_wp2
   go_ret
   rw[HY.out]
   exact⟨rfl,rfl⟩

section
variable {w w':World} {size n:Nat} {v:Value} {xs:List Value}
end
structure Pt where
 ref:List UInt8
 lo:Int
 hi:Int
 dir:Nat
def ptc (p:Pt):List Value:=[.string (sb p.ref),.int .i64 p.lo,.int .i64 p.hi,.int .u8 (p.dir:Int)]
def ptcells (l:List Pt):List Value:=l.flatMap ptc
theorem ptcells_len (l:List Pt):(ptcells l).length=l.length*4:=by
 induction l with
 | nil=>rfl
 | cons p l ih =>
  show(ptc p++ptcells l).length=_
  rw[List.length_append,ih,List.length_cons]
  show 4+_=_
  omega
theorem ptcells_at (l:List Pt):∀(k:Nat) (h:k<l.length),(ptcells l)[k*4]? = some (.string (sb l[k].ref))∧(ptcells l)[k*4+1]? = some (.int .i64 l[k].lo)∧(ptcells l)[k*4+2]? = some (.int .i64 l[k].hi)∧(ptcells l)[k*4+3]? = some (.int .u8 (l[k].dir:Int)):=by
 induction l with
 | nil=>intro k h;simp at h
 | cons p l ih =>
  intro k h
  cases k with
  | zero=>exact⟨rfl,rfl,rfl,rfl⟩
  | succ k =>
   have:=ih k (by simpa using h)
   rw[show(k+1)*4=k*4+4 by omega]
   exact this
def PtsR (w:World) (v:Value) (l:List Pt):Prop:=Rd w 4 v l.length (ptcells l)∧∀p∈l,p.ref.length≤maxLen∧p.dir<256
theorem PtsR.form {w:World} {v:Value} {l:List Pt} (h:PtsR w v l):∃A c,v=.slice A l.length c∧l.length≤c∧c≤maxLen:=h.1.form
theorem PtsR.below {w w':World} {v:Value} {l:List Pt} (h:PtsR w v l) (hb:Below w.heap.size w w'):PtsR w' v l:=⟨h.1.below hb,h.2⟩
theorem PtsR.at_ {w:World} {v:Value} {l:List Pt} (h:PtsR w v l) {k:Nat} (hk:k<l.length) :
  ∃g o c,v=.slice (some ⟨g,o,none⟩) l.length c∧g<w.heap.size∧w.cell? ⟨g,o+k*4,none⟩=some (.string (sb l[k].ref))∧w.cell? ⟨g,o+k*4+1,none⟩=some (.int .i64 l[k].lo)∧w.cell? ⟨g,o+k*4+2,none⟩=some (.int .i64 l[k].hi)∧w.cell? ⟨g,o+k*4+3,none⟩=some (.int .u8 (l[k].dir:Int)):=by
 obtain⟨⟨hl,A,c,hv,hc,hm,hr⟩,_⟩:=h
 obtain⟨g,o,rfl,hg,hx⟩:=hr (by omega)
 obtain⟨h0,h1,h2,h3⟩:=ptcells_at l k hk
 exact⟨g,o,c,hv,hg,hx _ _ h0,hx _ _ h1,hx _ _ h2,hx _ _ h3⟩

def idxFrom (r:List UInt8) (n:Nat):List Pt→Int
 | [] => -1
 | p::l=>if p.ref=r then n else idxFrom r (n+1) l
def idxOf (l:List Pt) (r:List UInt8):Int:=idxFrom r 0 l
theorem idx_step {l:List Pt} {k:Nat} (r:List UInt8) (h:k<l.length):idxFrom r k (l.drop k)=if l[k].ref=r then (k:Int) else idxFrom r (k+1) (l.drop (k+1)):=by
 rw[List.drop_eq_getElem_cons h];rfl
theorem idx_end {l:List Pt} {k:Nat} (r:List UInt8) (h:l.length≤k):idxFrom r k (l.drop k) = -1:=by
 rw[List.drop_eq_nil_of_le h];rfl
set_option maxHeartbeats 400000 in
theorem same_any (t r:ByteArray) (a b:Int) (d:Nat) (B:Nat) (w:World) (hr:w.cell? ⟨B,0,none⟩=some (.string r)) (hB:B<w.heap.size) :
  Calls Tryz.prog 223 #[.agg #[.string t,.int .i64 a,.int .i64 b,.int .u8 (d:Int)],.pointer (some ⟨B,0,none⟩)] w fun e w'=>e=.returned (.bool (t.toList == r.toList))∧Below w.heap.size w w':=by
 go_enter Tryz.func223,Tryz.ntmps223
 go_wp2
 go_ret
 exact⟨rfl,(Below.refl _ _).alloc (Nat.le_refl _) _⟩
theorem str_eq {t r:ByteArray}:(t.toList == r.toList)=decide (bl t=bl r):=by
 rw[bl_toList,bl_toList,Bool.eq_iff_iff,beq_iff_eq,decide_eq_true_iff]
set_option maxRecDepth 100000 in
set_option maxHeartbeats 1000000 in
theorem indexFunc_any (v:Value) (l:List Pt) (r:ByteArray) (B:Nat) (w:World) (h:PtsR w v l) (hr:w.cell? ⟨B,0,none⟩=some (.string r)) (hB:B<w.heap.size) :
  Calls Tryz.prog 164 #[v,.func (.func 223) #[] #[.pointer (some ⟨B,0,none⟩)]] w
   fun e w'=>e=.returned (.int .i64 (idxOf l (bl r)))∧Below w.heap.size w w':=by
 obtain⟨A,c,rfl,hc,hm⟩:=h.form
 unfold maxLen at hm
 have H:=Lib.hid h
 clear h
 obtain⟨n,hnn⟩:∃n,l.length=n:=⟨_,rfl⟩
 rw[hnn] at hc H
 rw[hnn]
 have HN:=Lib.hid hnn
 obtain⟨x,hx⟩:∃x,idxOf l (bl r)=x:=⟨_,rfl⟩
 rw[hx]
 have HX:=Lib.hid hx
 clear hnn hx
 go_enter Tryz.func164,Tryz.ntmps164
 go_wp2
 go_loopw [8] (fun i wr=>∃k:Nat,k≤n∧i=.int .i64 k∧Hid (idxFrom (bl r) k (l.drop k)=x)∧Below w.heap.size w wr) (fun i _=>n-(intOf i).toNat)
 case atStart=>exact⟨0,Nat.zero_le _,rfl,HX.out,Below.refl _ _⟩
 case round =>
  obtain⟨k,hk,rfl,hix,hbr⟩:=hrel
  by_cases hlt:k<n
  ·have hkl:k<l.length:=by rw[HN.out];exact hlt
   obtain⟨g,o,c',hA,hg,h0,h1,h2,h3⟩:=H.out.at_ hkl
   rw[HN.out] at hA
   simp only[Value.slice.injEq,true_and] at hA
   obtain⟨rfl,rfl⟩:=hA
   have k0:=(hbr.cell (p:=⟨g,o+k*4,none⟩) hg).trans h0
   have k1:=(hbr.cell (p:=⟨g,o+k*4+1,none⟩) hg).trans h1
   have k2:=(hbr.cell (p:=⟨g,o+k*4+2,none⟩) hg).trans h2
   have k3:=(hbr.cell (p:=⟨g,o+k*4+3,none⟩) hg).trans h3
   have HS:=Lib.hid (idx_step (bl r) hkl)
   obtain⟨p,hp⟩:∃p,l[k]=p:=⟨_,rfl⟩
   rw[hp] at k0 k1 k2 k3 HS
   clear h0 h1 h2 h3 hp hkl
   have hr2:=(hbr.cell (p:=⟨B,0,none⟩) hB).trans hr
   have hB2:B<wr.heap.size:=Nat.lt_of_lt_of_le hB hbr.size
   go_wp2_with fail
   refine(same_any (sb p.ref) r p.lo p.hi p.dir B _ hr2 hB2).mono ?_
   rintro e w1 ⟨rfl,hb1⟩
   have hbn:=hbr.trans (hb1.mono hbr.size)
   rw[str_eq,bl_sb]
   clear hr2 hB2 k0 k1 k2 k3
   by_cases he:p.ref=bl r
   ·have HE:=Lib.hid he
    rw[decide_eq_true he]
    clear he
    go_wp2
    go_ret
    exact⟨ret_int (by rw[←hix.out,HS.out,if_pos HE.out]),hbn⟩
   ·have HE:=Lib.hid he
    rw[decide_eq_false he]
    clear he
    go_wp2
    go_roundw
    case rel=>exact⟨k+1,hlt,by go_num,by unfold Hid;rw[←hix.out,HS.out,if_neg HE.out],hbn⟩
    case measure=>simp[intOf];omega
  ·have HE:=Lib.hid (idx_end (l:=l) (k:=k) (bl r) (by have:=HN.out;omega))
   go_wp2
   go_ret
   exact⟨ret_int (by rw[←hix.out,HE.out]),hbr⟩
set_option maxHeartbeats 1000000 in
theorem index_any (nm r:ByteArray) (v:Value) (l:List Pt) (w:World) (h:PtsR w v l) :
  Calls Tryz.prog 148 #[.agg #[.string nm,v],.string r] w fun e w'=>e=.returned (.int .i64 (idxOf l (bl r)))∧Below w.heap.size w w':=by
 obtain⟨A,c,rfl,hc,hm⟩:=h.form
 go_enter Tryz.func148,Tryz.ntmps148
 go_wp2_with fail
 refine(indexFunc_any _ l r _ _ (h.below (((Below.refl _ _).alloc (Nat.le_refl _) _).alloc (by simp) _)) (by simp[go_sem]) (by simp)).mono ?_
 rintro e w1 ⟨rfl,hb1⟩
 have hbn:=(((Below.refl w.heap.size w).alloc (Nat.le_refl _) (.cells #[.string nm,.slice A l.length c] 48)).alloc (by simp) (.cells #[.string r] 9)).trans (hb1.mono (by simp;omega))
 go_wp2
 go_ret
 exact⟨rfl,hbn⟩
set_option maxRecDepth 100000 in
set_option maxHeartbeats 1000000 in
theorem rindex_any (nm r:ByteArray) (v:Value) (l:List Pt) (w:World) (h:PtsR w v l) :
  Calls Tryz.prog 98 #[.agg #[.string nm,v],.string r] w fun e w'=>e=.returned (.int .i64 (idxOf l (bl r)))∧Below w.heap.size w w':=by
 obtain⟨A,c,rfl,hc,hm⟩:=h.form
 unfold maxLen at hm
 have H:=Lib.hid h
 clear h
 obtain⟨n,hnn⟩:∃n,l.length=n:=⟨_,rfl⟩
 rw[hnn] at hc H
 rw[hnn]
 have HN:=Lib.hid hnn
 obtain⟨x,hx⟩:∃x,idxOf l (bl r)=x:=⟨_,rfl⟩
 rw[hx]
 have HX:=Lib.hid hx
 clear hnn hx
 go_enter Tryz.func98,Tryz.ntmps98
 go_wp2
 go_loopw [10] (fun i wr=>∃k:Nat,k≤n∧i=.int .i64 k∧Hid (idxFrom (bl r) k (l.drop k)=x)∧Below w.heap.size w wr) (fun i _=>n-(intOf i).toNat)
 case atStart=>exact⟨0,Nat.zero_le _,rfl,HX.out,(Below.refl _ _).alloc (Nat.le_refl _) _⟩
 case round =>
  obtain⟨k,hk,rfl,hix,hbr⟩:=hrel
  by_cases hlt:k<n
  ·have hkl:k<l.length:=by rw[HN.out];exact hlt
   obtain⟨g,o,c',hA,hg,h0,h1,h2,h3⟩:=H.out.at_ hkl
   rw[HN.out] at hA
   simp only[Value.slice.injEq,true_and] at hA
   obtain⟨rfl,rfl⟩:=hA
   have k0:=(hbr.cell (p:=⟨g,o+k*4,none⟩) hg).trans h0
   have k1:=(hbr.cell (p:=⟨g,o+k*4+1,none⟩) hg).trans h1
   have k2:=(hbr.cell (p:=⟨g,o+k*4+2,none⟩) hg).trans h2
   have k3:=(hbr.cell (p:=⟨g,o+k*4+3,none⟩) hg).trans h3
   have HS:=Lib.hid (idx_step (bl r) hkl)
   obtain⟨p,hp⟩:∃p,l[k]=p:=⟨_,rfl⟩
   rw[hp] at k0 k1 k2 k3 HS
   clear h0 h1 h2 h3 hp hkl
   have hbn:=hbr.alloc hbr.size (.cells #[.string (sb p.ref),.int .i64 p.lo,.int .i64 p.hi,.int .u8 (p.dir:Int)] 53)
   by_cases he:p.ref=bl r
   ·have HE:=Lib.hid he
    have e1:((sb p.ref).toList == r.toList)=true:=by rw[str_eq,bl_sb,decide_eq_true he]
    clear he
    go_wp2
    go_ret
    exact⟨ret_int (by rw[←hix.out,HS.out,if_pos HE.out]),hbn⟩
   ·have HE:=Lib.hid he
    have e1:((sb p.ref).toList == r.toList)=false:=by rw[str_eq,bl_sb,decide_eq_false he]
    clear he
    go_wp2
    go_roundw
    case rel=>exact⟨k+1,hlt,by go_num,by unfold Hid;rw[←hix.out,HS.out,if_neg HE.out],hbn⟩
    case measure=>simp[intOf];omega
  ·have HE:=Lib.hid (idx_end (l:=l) (k:=k) (bl r) (by have:=HN.out;omega))
   go_wp2
   go_ret
   exact⟨ret_int (by rw[←hix.out,HE.out]),hbr⟩
structure Pa where
 kd:Nat
 nm:List UInt8
 lg:List Lg
structure Prc where
 ap:List UInt8
 nm:List UInt8
 kd:Nat
 pa:List Pa
structure AwD where
 nm:List UInt8
 ps:List Pt
structure DbD where
 hd:ImHd
 fx:List Fx
 aw:List AwD
 pr:List Prc
def pac (p:Value × Pa):List Value:=[.int .u8 (p.2.kd:Int),.string (sb p.2.nm),p.1]
def prc (p:Value × Prc):List Value:=[.string (sb p.2.ap),.string (sb p.2.nm),.int .u8 (p.2.kd:Int),p.1]
def awc (p:Value × AwD):List Value:=[.string (sb p.2.nm),p.1]
def PtOkD (p:Pt):Prop:=p.ref.length≤maxLen∧p.dir<256
def FxOk (f:Fx):Prop:=f.id.length≤maxLen∧f.rg.length≤maxLen∧f.kd<256
def LgsR (w:World) (v:Value) (l:List Lg):Prop:=Rd w 13 v l.length (l.flatMap lgc)∧∀x∈l,LgOk x
def PaOk (w:World) (p:Value × Pa):Prop:=p.2.nm.length≤maxLen∧p.2.kd<256∧LgsR w p.1 p.2.lg
def PasR (w:World) (v:Value) (l:List Pa):Prop:=∃L:List (Value × Pa),l=L.map (·.2)∧Rd w 3 v L.length (L.flatMap pac)∧∀x∈L,PaOk w x
def PrcOk (w:World) (p:Value × Prc):Prop:=p.2.ap.length≤maxLen∧p.2.nm.length≤maxLen∧p.2.kd<256∧PasR w p.1 p.2.pa
def PrcsR (w:World) (v:Value) (l:List Prc):Prop:=∃L:List (Value × Prc),l=L.map (·.2)∧Rd w 4 v L.length (L.flatMap prc)∧∀x∈L,PrcOk w x
def AwOk (w:World) (p:Value × AwD):Prop:=p.2.nm.length≤maxLen∧PtsR w p.1 p.2.ps
def AwsD (w:World) (v:Value) (l:List AwD):Prop:=∃L:List (Value × AwD),l=L.map (·.2)∧Rd w 2 v L.length (L.flatMap awc)∧∀x∈L,AwOk w x
def FxsD (w:World) (v:Value) (l:List Fx):Prop:=Rd w 7 v l.length (l.flatMap fxc)∧∀x∈l,FxOk x
def hdD (h:ImHd):List Value:=[.string (sb h.nm),.int .i64 h.cy,.int .i64 h.fr,.int .i64 h.tu,.int .i64 h.la,.int .i64 h.lo]
def dbC (h:ImHd) (f a p:Value):List Value:=[.string (sb h.nm),.int .i64 h.cy,.int .i64 h.fr,.int .i64 h.tu,.int .i64 h.la,.int .i64 h.lo,f,a,p]
structure DbV (w:World) (f a p:Value) (D:DbD):Prop where
 nm:D.hd.nm.length≤maxLen
 fx:FxsD w f D.fx
 aw:AwsD w a D.aw
 pr:PrcsR w p D.pr
section
variable {w w':World}
theorem LgsR.below {v:Value} {l:List Lg} (h:LgsR w v l) (hb:Below w.heap.size w w'):LgsR w' v l:=⟨h.1.below hb,h.2⟩
theorem PasR.below {v:Value} {l:List Pa} (h:PasR w v l) (hb:Below w.heap.size w w'):PasR w' v l:=by
 obtain⟨L,h1,h2,h3⟩:=h
 exact⟨L,h1,h2.below hb,fun x hx=>⟨(h3 x hx).1,(h3 x hx).2.1,(h3 x hx).2.2.below hb⟩⟩
theorem PrcsR.below {v:Value} {l:List Prc} (h:PrcsR w v l) (hb:Below w.heap.size w w'):PrcsR w' v l:=by
 obtain⟨L,h1,h2,h3⟩:=h
 exact⟨L,h1,h2.below hb,fun x hx=>⟨(h3 x hx).1,(h3 x hx).2.1,(h3 x hx).2.2.1,(h3 x hx).2.2.2.below hb⟩⟩
theorem AwsD.below {v:Value} {l:List AwD} (h:AwsD w v l) (hb:Below w.heap.size w w'):AwsD w' v l:=by
 obtain⟨L,h1,h2,h3⟩:=h
 exact⟨L,h1,h2.below hb,fun x hx=>⟨(h3 x hx).1,(h3 x hx).2.below hb⟩⟩
theorem FxsD.below {v:Value} {l:List Fx} (h:FxsD w v l) (hb:Below w.heap.size w w'):FxsD w' v l:=⟨h.1.below hb,h.2⟩
theorem DbV.below {f a p:Value} {D:DbD} (h:DbV w f a p D) (hb:Below w.heap.size w w'):DbV w' f a p D:=⟨h.nm,h.fx.below hb,h.aw.below hb,h.pr.below hb⟩
end
end Go.Proofs.YtgmehlgfilpleaaGreatDoor
