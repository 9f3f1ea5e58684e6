/-
  Contract: a leg's bytes (the reference's writing of an image).
-/
import Derived.Test.YtgmehlgfilpleaaGreatDoorMG24
import Derived.Deep.AppendLies
import Derived.Deep.RegionHeld3
namespace Go.Proofs.YtgmehlgfilpleaaGreatDoor
open Go.RowKit
set_option linter.unusedVariables false
set_option linter.unusedSimpArgs false
def tx1 (x:List UInt8):List UInt8:=u8of (x.length:Int)::x
theorem tx1_len (x:List UInt8):(tx1 x).length=x.length+1:=by unfold tx1;rw[List.length_cons]
theorem txtT_one (x:List UInt8):txtL [x]=tx1 x:=by unfold txtL tx1;simp
theorem txtT_two (x y:List UInt8):txtL [x,y]=tx1 x++tx1 y:=by unfold txtL tx1;simp
theorem rstrL_any (x:List UInt8) (w:World) (h:x.length≤255):Calls Tryz.prog 242 #[.string (sb x)] w (OutB (tx1 x) w):=by
 have hs:(sb x).size=x.length:=by rw[←bl_len,bl_sb]
 have:=rstr_any (sb x) w (by rw[hs];exact h)
 rw[hs,bl_sb] at this
 exact this
theorem rlow8_any (x:Int) (w:World):Calls Tryz.prog 160 #[.int .i64 x,.int .i64 8] w (OutB (lowB x 8) w):=rlow_any x 8 w (by omega)
theorem rlow2_any (x:Int) (w:World):Calls Tryz.prog 160 #[.int .i64 x,.int .i64 2] w (OutB (lowB x 2) w):=rlow_any x 2 w (by omega)
theorem rlow4_any (x:Int) (w:World):Calls Tryz.prog 160 #[.int .i64 x,.int .i64 4] w (OutB (lowB x 4) w):=rlow_any x 4 w (by omega)
theorem u8b_cell {n:Nat} (h:n<256):u8c (u8b n)=.int .u8 (n:Int):=by
 unfold u8c u8b;rw[u8of_nat,show(n:Int)%256=(n:Int) by omega]
theorem SrcB.one (w:World) {n:Nat} (h:n<256):SrcB [u8b n] (.slice (some ⟨w.heap.size,0,none⟩) 1 1) (w.alloc (.cells #[.int .u8 (n:Int)] 5)):=by
 have:=SrcB.lit w [u8b n]
 rw[List.map_cons,u8b_cell h] at this
 exact this
theorem SrcB.two (w:World) {n m:Nat} (h:n<256) (k:m<256):SrcB [u8b n,u8b m] (.slice (some ⟨w.heap.size,0,none⟩) 2 2) (w.alloc (.cells #[.int .u8 (n:Int),.int .u8 (m:Int)] 5)):=by
 have:=SrcB.lit w [u8b n,u8b m]
 rw[List.map_cons,List.map_cons,u8b_cell h,u8b_cell k] at this
 exact this
section
variable {P:Program} (w:World)
theorem runAppFull (base:Nat) (t ty e:TypeId) (i:TypeInfo) (z:Value) (size bytes:Nat) (ht:P.underlying t=some (.slice e)) (hi:P.info? e=some i) (hz:i.zero=some z)
  (hsize:i.size=size) (hby:i.bytes=bytes) (hzs:z.cells.size=size)
  (b:Addr) (n:Nat) (xs:List Value) (hxl:xs.length=n*size) (hxs:∀j u,xs[j]? = some u→w.cell? (b.add j)=some u)
  (a:Addr) (m c:Nat) (news:List Value) (hl:news.length=m*size) (hnews:∀j u,news[j]? = some u→w.cell? (a.add j)=some u) (hm:0<m)
  (h63:n+m≤maxLen) (hbytes:(n+m)*bytes≤140737488355328) (hbase:base≤w.heap.size) :
  ∃v' w',(Builtin.append_ #[t,t] ty #[.slice (some b) n n,.slice (some a) m c]).run P w=.ok v' w'∧w'.ownsRow base e size v' (n+m) (xs++news)∧w.grownBy w' none:=by
 subst hsize
 subst hby
 have hsmall:n+m≤9223372036854775807:=by simp only[maxLen] at h63;omega
 have hlen:(xs++news).length=(n+m)*i.size:=by rw[List.length_append,hxl,hl,Nat.add_mul]
 have hr:=run_append_grow (P:=P) w t ty e i z ht hi hz b n n xs hxl hxs a m c news hl hnews (by omega) (by omega) (growslice_fits (by omega) hbytes)
 have hge:=grownCap_ge w (n+m) n e
 have hcm:grownCap w (n+m) n e≤maxLen:=grownCap_le_maxLen w (n+m) n e h63
 refine⟨_,_,hr,⟨hlen,.inr ⟨w.heap.size,_,_,rfl,hbase,heap_alloc_new w.drew _,hge,hcm,?_,?_⟩⟩,⟨rfl,rfl,rfl,by simp,fun k hk _=>Below.heap_alloc w.drew _ k hk⟩⟩
 ·simp only[Array.size_append,List.size_toArray,size_zeroCells,hzs,hxl,hl,←Nat.add_mul]
  congr 1
  omega
 ·simp only[Array.toList_append,List.append_assoc]
  rw[←List.append_assoc,←hlen]
  exact List.take_left
theorem stepAppFull {ops:Array Oper} {o:Oper} {a:Act} {K:Act→World→Prop} {Q:Exit→Act→World→Prop} {E:Prop} (hgd:o.guard=none) (s x:Operand) (t:TypeId)
  (ho:o.op=.call {callee:=.builtin .append,args := #[s,x],argTypes := #[t,t]})
  (base:Nat) (e:TypeId) (i:TypeInfo) (z:Value) (size bytes:Nat) (ht:P.underlying t=some (.slice e)) (hi:P.info? e=some i) (hz:i.zero=some z)
  (hsize:i.size=size) (hby:i.bytes=bytes) (hzs:z.cells.size=size)
  (b:Addr) (n:Nat) (xs:List Value) (hs:a.eval s=.slice (some b) n n) (hxl:xs.length=n*size) (hxs:∀j u,xs[j]? = some u→w.cell? (b.add j)=some u)
  (ad:Addr) (m c:Nat) (news:List Value) (hx:a.eval x=.slice (some ad) m c) (hl:news.length=m*size) (hnews:∀j u,news[j]? = some u→w.cell? (ad.add j)=some u) (hm:0<m)
  (h63:n+m≤maxLen) (hbytes:(n+m)*bytes≤140737488355328) (hbase:base≤w.heap.size)
  (h:∀v' w',w'.ownsRow base e size v' (n+m) (xs++news)→w.grownBy w' none→K (a.put o.dst v') w') :
  if Region.wanted o (yielded ops a.tmps)=true then Oper.wp P o a w K Q else E:=by
 have hw:Region.wanted o (yielded ops a.tmps)=true:=by simp[Region.wanted,hgd]
 rw[if_pos hw]
 obtain⟨v',w',hr,h2,h3⟩:=runAppFull (P:=P) w base t o.type e i z size bytes ht hi hz hsize hby hzs b n xs hxl hxs ad m c news hl hnews hm h63 hbytes hbase
 unfold Oper.wp execOp
 simp only[ho,resolve,invoke,builtin,Sem.run_bind,Sem.run_pure,Result.andThen_ok,List.map_toArray,List.map_cons,List.map_nil,hs,hx,hr]
 exact h v' w' h2 h3
end
section
variable {w:World} {ops:Array Oper} {o:Oper} {a:Act} {K:Act→World→Prop} {Q:Exit→Act→World→Prop} {E:Prop}
theorem step_fullB (hgd:o.guard=none) (s x:Operand) (ho:o.op=.call {callee:=.builtin .append,args := #[s,x],argTypes := #[68,68]})
  (B g:Nat) (out src:List UInt8) (n:Nat) (hs:a.eval s=.slice (some ⟨g,0,none⟩) n n) (hn:out.length=n) (cs:Array Value) (hcs:(out.map u8c).toArray=cs) (hc:Bx g cs 5 w)
  (y:Value) (hx:a.eval x=y) (hS:SrcB src y w) (h0:0<src.length) (hN:out.length+src.length≤100000000) (hB:B≤w.heap.size) (res:List UInt8) (m:Nat) (hres:out++src=res) (hm:res.length=m)
  (h:∀A c w',Hid (RowB B res (.slice A m c) w')→Hid (Below w.heap.size w w')→K (a.put o.dst (.slice A m c)) w') :
  if Region.wanted o (yielded ops a.tmps)=true then Oper.wp Tryz.prog o a w K Q else E:=by
 obtain⟨i0,hi,hz0,hz1,hz2⟩:=info_parts infoU8b
 obtain⟨A,c,rfl,hsrc⟩:=hS
 obtain⟨ad,rfl,hcl⟩:=hsrc h0
 subst hcs hn
 refine stepAppFull _ hgd s x 68 ho B 5 i0 (.int .u8 0) 1 1 Tryz.underlying68 hi hz0 hz1 hz2 rfl ⟨g,0,none⟩ out.length (out.map u8c) hs (by simp) (fun j u hu => ?_) ad src.length c (src.map u8c) hx (by simp) hcl h0 (by unfold maxLen;omega) (by omega) hB ?_
 ·have:=hc.cell j (u:=u) (by rw[List.getElem?_toArray];exact hu)
  rw[Addr.add_lit,Nat.zero_add];exact this
 intro v' w' hown hgrow
 have hown2:RowB B (out++src) v' w':=by
  unfold RowB;rw[List.length_append,List.map_append];exact hown
 obtain⟨A',c',rfl⟩:=hown2.form
 subst hres hm
 exact h A' c' w' hown2 ((Below.refl _ _).grown hgrow (Nat.le_refl _) (fun k hk=>by cases hk))
end
def NumRow (g:Nat) (xs:List Int) (w:World):Prop:=Bx g (xs.map (Value.int .i64)).toArray 2 w
theorem NumRow.cell {g:Nat} {xs:List Int} {w:World} (h:NumRow g xs w) {k:Nat} {x:Int} (hx:xs[k]? = some x):w.cell? ⟨g,k,none⟩=some (.int .i64 x) :=
 Bx.cell h k (by rw[List.getElem?_toArray,List.getElem?_map,hx];rfl)
theorem NumRow.fw {B g:Nat} {xs:List Int} {w w':World} (h:NumRow g xs w) (hf:Fw B w w'):NumRow g xs w':=hf.bx _ _ _ (by decide) h
theorem numB_step {xs:List Int} {k:Nat} {x:Int} (hx:xs[k]? = some x):numB (xs.take (k+1))=numB (xs.take k)++lowB x 8:=by
 have hk:k<xs.length:=by
  rcases Nat.lt_or_ge k xs.length with h|h
  ·exact h
  ·rw[List.getElem?_eq_none h] at hx;cases hx
 rw[List.getElem?_eq_getElem hk] at hx
 injection hx with hx
 rw[numB_snoc xs k hk,hx]
set_option maxRecDepth 100000 in
set_option maxHeartbeats 16000000 in
theorem rleg_any (l:Lg) (w:World) (hl:LgB l) :
  Calls Tryz.prog 243 #[.agg (lgc l).toArray] w (OutB (lgB l) w):=by
 obtain⟨ty,fi,ce,tn,ov,cr,ds,ra,th,lo,hi,sp,rn⟩:=l
 obtain⟨hfi,hce,hty,htn,-,-,-,-,-,-,-,-⟩:=hl
 replace hfi:fi.length≤255:=hfi
 replace hce:ce.length≤255:=hce
 replace hty:ty<256:=hty
 replace htn:tn<256:=htn
 have t1:=tx1_len fi
 have t2:=tx1_len ce
 obtain⟨o,ho⟩:∃o:Nat,(if ov=true then 1 else 0)=o:=⟨_,rfl⟩
 have ho2:o<256:=by rw[←ho];cases ov <;> simp
 have hou:(if ov=true then (1:UInt8) else 0)=u8b o:=by rw[←ho];cases ov <;> rfl
 obtain⟨N1,hN1⟩:∃L,[u8b ty]++tx1 fi=L:=⟨_,rfl⟩
 obtain⟨N2,hN2⟩:∃L,N1++tx1 ce=L:=⟨_,rfl⟩
 obtain⟨N3,hN3⟩:∃L,N2++[u8b tn,u8b o]=L:=⟨_,rfl⟩
 have k1:N1.length=fi.length+2:=by rw[←hN1,List.length_append,t1];simp;omega
 have k2:N2.length=fi.length+ce.length+3:=by rw[←hN2,List.length_append,t2,k1];omega
 have k3:N3.length=fi.length+ce.length+5:=by rw[←hN3,List.length_append,k2];rfl
 obtain⟨M1,l1⟩:∃m,N1.length=m:=⟨_,rfl⟩
 obtain⟨M2,l2⟩:∃m,N2.length=m:=⟨_,rfl⟩
 obtain⟨M3,l3⟩:∃m,N3.length=m:=⟨_,rfl⟩
 obtain⟨xs,hxs⟩:∃xs,[cr,ds,ra,th,lo,hi,sp,rn]=xs:=⟨_,rfl⟩
 have HRES:Hid (lgB ⟨ty,fi,ce,tn,ov,cr,ds,ra,th,lo,hi,sp,rn⟩=N3++numB xs):=by
  unfold Hid lgB
  rw[←hxs,hou,←hN3,←hN2,←hN1,txtT_two];simp only[List.append_assoc]
 rw[HRES.out]
 clear HRES hou
 have C1:Hid (([u8b ty].map u8c).toArray = #[.int .u8 (ty:Int)]):=by unfold Hid;rw[List.map_cons,u8b_cell hty];rfl
 unfold lgc
 obtain⟨w1,hw1⟩:∃W,w.alloc (.cells #[.int .u8 (ty:Int),.string (sb fi),.string (sb ce),.int .u8 (tn:Int),.bool ov,.int .i64 cr,.int .i64 ds,.int .i64 ra,.int .i64 th,.int .i64 lo,.int .i64 hi,.int .i64 sp,.int .i64 rn] 65)=W:=⟨_,rfl⟩
 obtain⟨q,hq⟩:∃q,w.heap.size=q:=⟨_,rfl⟩
 have B1:Hid (Below w.heap.size w w1):=by rw[←hw1];exact(Below.refl _ _).alloc (Nat.le_refl _) _
 have X1:Hid (Bx q #[.int .u8 (ty:Int),.string (sb fi),.string (sb ce),.int .u8 (tn:Int),.bool ov,.int .i64 cr,.int .i64 ds,.int .i64 ra,.int .i64 th,.int .i64 lo,.int .i64 hi,.int .i64 sp,.int .i64 rn] 65 w1):=by rw[←hw1,←hq];exact Bx.last w _ _
 have HW1:=Lib.hid hw1
 have HQ:=Lib.hid hq
 have HL:Hid (N1.length=M1∧N2.length=M2∧N3.length=M3):=⟨l1,l2,l3⟩
 have HM:Hid (M1≤257∧M2≤600∧M3≤600):=⟨by omega,by omega,by omega⟩
 have HB:Hid (fi.length≤255∧ce.length≤255∧ty<256∧tn<256∧o<256):=⟨hfi,hce,hty,htn,ho2⟩
 have HN:Hid ([u8b ty]++tx1 fi=N1∧N1++tx1 ce=N2∧N2++[u8b tn,u8b o]=N3):=⟨hN1,hN2,hN3⟩
 have HT:Hid ((tx1 fi).length=fi.length+1∧(tx1 ce).length=ce.length+1):=⟨t1,t2⟩
 have HO:=Lib.hid ho
 have HXS:=Lib.hid hxs
 have HX8:Hid (xs.length=8):=by rw[←hxs];rfl
 clear hw1 hq l1 l2 l3 k1 k2 k3 hfi hce hty htn ho2 hN1 hN2 hN3 t1 t2 ho hxs
 have x0:=X1.out.cell 0 (u:=.int .u8 (ty:Int)) rfl
 have x1:=X1.out.cell 1 (u:=.string (sb fi)) rfl
 have xl:=X1.out.lt
 go_enter Tryz.func243,Tryz.ntmps243
 go_upto_region 1 with fail
 rw[HW1.out,HQ.out]
 clear HW1 HQ
 go_cut [3] (fun v wx=>∃(A:Option Addr) (c:Nat),v=.slice A M1 c∧Hid (RowB w.heap.size N1 (.slice A M1 c) wx)∧Hid (Below w1.heap.size w1 wx))
 case first =>
  go_region_law (first
   | (refine step_fullB (by rfl) _ _ rfl w.heap.size _ [u8b ty] (tx1 fi) 1 rfl (by rfl) #[.int .u8 (ty:Int)] C1.out (by first|exact(Bx.last w1 _ _).drew.via HB2.out|exact(Bx.last w1.drew _ _).via HB2.out|exact Bx.last w2 _ _) _ rfl (by first|exact HO2.out.src|exact(HO2.out.below ((Below.refl _ _).alloc (Nat.le_refl _) _)).src) (by rw[HT.out.1];omega) (by rw[HT.out.1];simp;have:=HB.out.1;omega) (by have h1:=HB2.out.size;have h2:=B1.out.size;simp at h1 ⊢;omega) N1 M1 HN.out.1 HL.out.1 ?_;intro A3 c3 w3 hO3 hB3)
   | (go_simp;go_at_call 242;refine(rstrL_any fi _ HB.out.1).mono ?_;rintro e w2 ⟨A2,c2,rfl,ho2,hb2⟩;have HO2:=Lib.hid ho2;have HB2:=Lib.hid hb2;have x0b:=(Bx.via hb2 (by first|exact X1.out.drew|exact X1.out.drew.grow _|exact(X1.out.grow _).drew)).cell 0 (u:=.int .u8 (ty:Int)) rfl;clear ho2 hb2;dsimp only))
  all_goals
   have BF:Hid (Below w1.heap.size w1 w3):=by
    first
     | exact Below.then_ (Below.then_ ((Below.refl w1.heap.size w1).alloc (Nat.le_refl _) _).drew HB2.out) hB3.out
     | exact Below.then_ (Below.then_ ((Below.refl w1.heap.size w1).drew.alloc (Nat.le_refl _) _) HB2.out) hB3.out
     | exact Below.then_ (Below.then_ (Below.then_ (Below.refl w1.heap.size w1).drew HB2.out) ((Below.refl _ _).alloc (Nat.le_refl _) _)) hB3.out
   clear HB2 HO2 hB3 x0b x0 x1
   go_wp2
   go_meet
   exact⟨_,_,rfl,hO3,BF⟩
 case rest =>
  obtain⟨A1,c1,rfl,R1,F1⟩:=hcut
  obtain⟨w3,rfl⟩:∃w3,w3=wc:=⟨_,rfl⟩
  have X3:=Lib.hid (X1.out.via F1.out)
  have B3:=Lib.hid (Below.then_ B1.out F1.out)
  clear x0 x1 xl X1 F1 B1 C1
  have x2:=X3.out.cell 2 (u:=.string (sb ce)) rfl
  have xl:=X3.out.lt
  go_wp2_with fail
  refine(rstrL_any ce _ HB.out.2.1).mono ?_
  rintro e w4 ⟨A4,c4,rfl,ho4,hb4⟩
  have R4:=Lib.hid (R1.out.below hb4)
  have S4:=Lib.hid ho4.src
  have X4:=Lib.hid (X3.out.via hb4)
  have B4:=Lib.hid (Below.then_ B3.out hb4)
  clear ho4 hb4 R1 X3 B3 x2 xl
  go_wp2_with (at_builtin;refine wpList_appB rfl _ _ rfl w.heap.size N1 (tx1 ce) _ _ rfl R4.out rfl S4.out ?d1 ?d2 N2 M2 HN.out.2.1 HL.out.2.1 ?_)
  case d1=>rw[HT.out.2,HL.out.1];have h1:=HM.out;have h2:=HB.out;omega
  case d2=>exact B4.out.size
  intro A5 c5 w5 R5 G5
  have X5:=Lib.hid (G5.out.bx _ _ _ (by decide) X4.out)
  have B5:Hid (Below w.heap.size w w5):=B4.out.trans G5.out.be
  clear R4 S4 X4 B4 G5
  have x3:=X5.out.cell 3 (u:=.int .u8 (tn:Int)) rfl
  have x4:=X5.out.cell 4 (u:=.bool ov) rfl
  have xl:=X5.out.lt
  go_upto_if 20 with (fail)
  go_cut [4] (fun u wx=>u=.int .u8 (o:Int)∧Hid (wx=w5))
  case first =>
   cases ov
   ·obtain rfl:0=o:=HO.out
    go_wp2
    go_meet
    exact⟨rfl,rfl⟩
   ·obtain rfl:1=o:=HO.out
    go_wp2
    go_meet
    exact⟨rfl,rfl⟩
  case rest =>
  obtain⟨rfl,hwx⟩:=hcut
  obtain rfl:=hwx.out
  clear hwx x4
  have S6:=Lib.hid (SrcB.two wc HB.out.2.2.2.1 HB.out.2.2.2.2)
  have ba:=(Below.refl wc.heap.size wc).alloc (Nat.le_refl _) (.cells #[.int .u8 (tn:Int),.int .u8 (o:Int)] 5)
  have R6:=Lib.hid (R5.out.below ba)
  have X6:=Lib.hid (X5.out.via ba)
  have B6:=Lib.hid (Below.then_ B5.out ba)
  clear ba R5 X5 B5
  go_wp2_with (at_builtin;refine wpList_appB rfl _ _ rfl w.heap.size N2 [u8b tn,u8b o] _ _ rfl R6.out rfl S6.out ?d1 ?d2 N3 M3 HN.out.2.2 HL.out.2.2 ?_)
  case d1=>rw[HL.out.2.1];have h1:=HM.out;simp;omega
  case d2=>exact B6.out.size
  intro A7 c7 w7 R7 G7
  have X7:=Lib.hid (G7.out.bx _ _ _ (by decide) X6.out)
  have B7:Hid (Below w.heap.size w w7):=B6.out.trans G7.out.be
  clear R6 S6 X6 B6 G7 x3 xl
  have x5:=X7.out.cell 5 (u:=.int .i64 cr) rfl
  have x6:=X7.out.cell 6 (u:=.int .i64 ds) rfl
  have x7:=X7.out.cell 7 (u:=.int .i64 ra) rfl
  have x8:=X7.out.cell 8 (u:=.int .i64 th) rfl
  have x9:=X7.out.cell 9 (u:=.int .i64 lo) rfl
  have x10:=X7.out.cell 10 (u:=.int .i64 hi) rfl
  have x11:=X7.out.cell 11 (u:=.int .i64 sp) rfl
  have x12:=X7.out.cell 12 (u:=.int .i64 rn) rfl
  have xl:=X7.out.lt
  go_wp2
  go_loopw [3,47] (fun v iv wr=>∃(k:Nat) (A:Option Addr) (c:Nat),k≤8∧iv=.int .i64 (k:Int)∧v=.slice A (M3+8*k) c∧Hid (RowB w.heap.size (N3++numB (xs.take k)) (.slice A (M3+8*k) c) wr)∧Hid (Below w.heap.size w wr)∧Hid (NumRow w7.heap.size xs wr)) (fun _ iv _=>8-(intOf iv).toNat)
  case atStart =>
   have ba:=(Below.refl w7.heap.size w7).alloc (Nat.le_refl _) (.cells #[.int .i64 cr,.int .i64 ds,.int .i64 ra,.int .i64 th,.int .i64 lo,.int .i64 hi,.int .i64 sp,.int .i64 rn] 2)
   refine⟨0,_,_,Nat.zero_le _,rfl,rfl,?_,Below.then_ B7.out ba,?_⟩
   ·have h:=R7.out.below ba
    unfold Hid
    rw[List.take_zero]
    simpa [numB] using h
   ·unfold Hid NumRow
    rw[←HXS.out]
    exact Bx.last w7 _ _
  case round =>
   clear x5 x6 x7 x8 x9 x10 x11 x12 xl X7 R7
   obtain⟨k,A,c,hk,rfl,rfl,hob,hbe,hnr⟩:=hrel
   have hx8:=HX8.out
   by_cases hlt:k<8
   ·have hki:(k:Int)<8:=by omega
    obtain⟨x,hx⟩:∃x,xs[k]? = some x:=⟨_,List.getElem?_eq_getElem (by omega)⟩
    have hc:=hnr.out.cell hx
    have HXK:=Lib.hid hx
    have HLT:=Lib.hid hlt
    clear hx hx8
    go_wp2_with fail
    refine(rlow8_any x _).mono ?_
    rintro e w8 ⟨A8,c8,rfl,ho8,hb8⟩
    have R8:=Lib.hid (hob.out.below hb8)
    have S8:=Lib.hid ho8.src
    have B8:=Lib.hid (hbe.out.trans (hb8.mono hbe.out.size))
    have N8:=Lib.hid (Bx.via hb8 hnr.out)
    have L8:Hid ((N3++numB (xs.take k)).length=M3+8*k):=by
     unfold Hid;rw[List.length_append,numB_len,List.length_take,HL.out.2.2,HX8.out];omega
    have HRS:Hid ((N3++numB (xs.take k))++lowB x 8=N3++numB (xs.take (k+1))):=by
     unfold Hid;rw[numB_step HXK.out,List.append_assoc]
    have L9:Hid ((N3++numB (xs.take (k+1))).length=M3+8*(k+1)):=by
     unfold Hid;rw[←HRS.out,List.length_append,L8.out,lowB_len];omega
    rw[lowB_len] at S8
    clear hob hbe hnr ho8 hb8 hc
    go_wp2_with (at_builtin;refine wpList_appB rfl _ _ rfl w.heap.size (N3++numB (xs.take k)) (lowB x 8) _ _ rfl R8.out rfl S8.out ?d1 ?d2 (N3++numB (xs.take (k+1))) (M3+8*(k+1)) HRS.out L9.out ?_)
    case d1=>rw[L8.out,lowB_len];have h1:=HM.out;omega
    case d2=>exact B8.out.size
    intro A9 c9 w9 R9 G9
    have B9:Hid (Below w.heap.size w w9):=B8.out.trans G9.out.be
    have N9:Hid (NumRow w7.heap.size xs w9):=NumRow.fw N8.out G9.out
    clear R8 S8 B8 N8 G9 L8 L9 HRS
    go_wp2
    go_roundw
    case rel=>exact⟨k+1,A9,c9,HLT.out,by first|rfl|go_num,rfl,R9,B9,N9⟩
    case measure=>simp[intOf];omega
   ·have e:k=8:=by omega
    subst e
    have ht:xs.take 8=xs:=List.take_of_length_le (by omega)
    have hL:(N3++numB xs).length=M3+8*8:=by rw[List.length_append,numB_len,HL.out.2.2,HX8.out]
    have HF:Hid (OutB (N3++numB xs) w (.returned (.slice A (M3+8*8) c)) wr):=by
     refine⟨A,c,by rw[hL],?_,hbe.out⟩
     have h:=hob.out
     rw[ht] at h
     rw[hL];exact h
    clear ht hL hx8 hob hnr hbe
    go_wp2
    go_ret
    exact HF.out
end Go.Proofs.YtgmehlgfilpleaaGreatDoor
