/-
  Several texts as one.
-/
import Derived.Test.YtgmehlgfilpleaaGreatDoorMG15
import Derived.Laws.BytesString
import Derived.Laws.Cells
import Derived.Laws.BitsAllLaws
import Derived.Lib.SliceRun
namespace Go.Proofs.YtgmehlgfilpleaaGreatDoor
open Go.RowKit
set_option linter.unusedVariables false
set_option linter.unusedSimpArgs false
theorem RdP.fail {g gb ob c st:Nat} {bs:List UInt8} {a:Nat} {b:Bool} {w:World} (h:RdP g gb ob c st bs (a,b) w):RdPTo g gb ob c st bs (a,true) w (w.setCell ⟨g,3,none⟩ (.bool true)) :=
 ⟨h.to (frm_set w g 3 _) (h.bx.set 3 _) h.at_,frm_set w g 3 _⟩
theorem RdP.on {g gb ob c st:Nat} {bs:List UInt8} {a n:Nat} {w:World} (h:RdP g gb ob c st bs (a,false) w) (hn:a+n≤st):RdPTo g gb ob c st bs (a+n,false) w (w.setCell ⟨g,1,none⟩ (.int .i64 ((a+n:Nat):Int))) :=
 ⟨h.to (frm_set w g 1 _) (h.bx.set 1 _) hn,frm_set w g 1 _⟩
def ImTakePost (g gb ob c st:Nat) (bs:List UInt8) (n:Nat) (s:RS) (w:World) (e:Ending) (w':World):Prop :=
 (∃v,e=.returned v∧BsV w' v (tkV bs st n s))∧RdPTo g gb ob c st bs (tkS st n s) w w'
set_option maxRecDepth 100000 in
set_option maxHeartbeats 8000000 in
theorem imTake_any {g gb ob c st:Nat} {bs:List UInt8} (s:RS) (n:Nat) (w:World) (h:RdP g gb ob c st bs s w) (hn:n≤4294967296) :
  Calls Tryz.prog 230 #[.pointer (some ⟨g,0,none⟩),.int .i64 (n:Int)] w (ImTakePost g gb ob c st bs n s w):=by
 obtain⟨a,b⟩:=s
 have k0:=h.bx.cell 0 (u:=.slice (some ⟨gb,ob,none⟩) bs.length c) rfl
 have k1:=h.bx.cell 1 (u:=.int .i64 (a:Int)) rfl
 have k2:=h.bx.cell 2 (u:=.int .i64 (st:Int)) rfl
 have k3:=h.bx.cell 3 (u:=.bool b) rfl
 have f1:=h.bx.free 1
 have f3:=h.bx.free 3
 have ha:a≤st:=h.at_
 have hst:=h.st_
 have hcp:=h.cap
 have hmx:=h.mx
 have hdn:decide ((n:Int)<0)=false:=decide_eq_false (by omega)
 have HNO:Hid ((b=true∨st-a<n)→∀W,Below w.heap.size w W→ImTakePost g gb ob c st bs n (a,b) w (.returned (.slice none 0 0)) (W.setCell ⟨g,3,none⟩ (.bool true))):=by
  intro hb W hW
  unfold ImTakePost
  rw[tkV_no hb,tkS_no hb]
  have hr:=(h.below hW).fail
  exact⟨⟨_,rfl,BsV.nil _⟩,hr.r,(Frm.of_below hW).trans hr.f⟩
 have HYES:Hid (b=false→¬st-a<n→∀W,Below w.heap.size w W→ImTakePost g gb ob c st bs n (a,b) w (.returned (subV gb ob c a n)) (W.setCell ⟨g,1,none⟩ (.int .i64 ((a:Int)+(n:Int))))):=by
  rintro rfl hb W hW
  unfold ImTakePost
  rw[tkV_yes hb,tkS_yes hb]
  have hr:=(h.below hW).on (n:=n) (by omega)
  rw[show((a+n:Nat):Int)=(a:Int)+(n:Int) by omega] at hr
  exact⟨⟨_,rfl,BsV.sub hr.r.by_ hcp hmx (by omega)⟩,hr.r,(Frm.of_below hW).trans hr.f⟩
 unfold maxLen at hmx
 obtain⟨N,hN⟩:∃N,bs.length=N:=⟨_,rfl⟩
 rw[hN] at k0 hst hcp
 clear h hN
 have hw1:IntKind.i64.wrap ((st:Int)-(a:Int))=(st:Int)-(a:Int):=by rw[IntKind.wrap_i64];omega
 cases b with
 | true =>
  go_enter Tryz.func230,Tryz.ntmps230
  go_wp2
  go_quiet (fail)
  go_wp2
  go_ret
  exact HNO.out (.inl (by first|rfl|trivial)) _ (by repeat(first|exact Below.refl _ _|with_reducible refine below_drewN' ?_ _|with_reducible refine Below.drew ?_))
 | false =>
  by_cases hlt:st-a<n
  ·have hd:decide ((st:Int)-(a:Int)<(n:Int))=true:=decide_eq_true (by omega)
   go_enter Tryz.func230,Tryz.ntmps230
   go_wp2
   go_quiet (fail)
   go_wp2
   go_ret
   exact HNO.out (.inr hlt) _ (by repeat(first|exact Below.refl _ _|with_reducible refine below_drewN' ?_ _|with_reducible refine Below.drew ?_))
  ·have hd:decide ((st:Int)-(a:Int)<(n:Int))=false:=decide_eq_false (by omega)
   have hw2:IntKind.i64.wrap ((a:Int)+(n:Int))=(a:Int)+(n:Int):=by rw[IntKind.wrap_i64];omega
   by_cases hca:c=a
   ·have HV:Hid (subV gb ob c a n=.slice (some ⟨gb,ob,none⟩) (a+n-a) 0):=by
     unfold Hid subV;rw[if_pos hca,Nat.add_sub_cancel_left,hca,Nat.sub_self]
    go_enter Tryz.func230,Tryz.ntmps230
    go_wp2
    go_quiet (fail)
    go_wp2
    go_quiet (fail)
    go_wp2
    go_ret
    have hz:=HYES.out (by first|rfl|trivial) hlt
    rw[HV.out] at hz
    exact hz _ (below_drewN' (Below.refl _ _) _)
   ·have HV:Hid (subV gb ob c a n=.slice (some ⟨gb,ob+a,none⟩) (a+n-a) (c-a)):=by
     unfold Hid subV;rw[if_neg hca,Nat.add_sub_cancel_left]
    go_enter Tryz.func230,Tryz.ntmps230
    go_wp2
    go_quiet (fail)
    go_wp2
    go_quiet (fail)
    go_wp2
    go_ret
    have hz:=HYES.out (by first|rfl|trivial) hlt
    rw[HV.out] at hz
    exact hz _ (below_drewN' (Below.refl _ _) _)
theorem byV_yes {bs:List UInt8} {st a:Nat} (h:¬st-a<1) (hl:a<bs.length):byV bs st (a,false)=bs[a]:=by
 unfold byV
 rw[tkV_yes h,List.headD_eq_head?_getD,List.head?_take,List.head?_drop,List.getElem?_eq_getElem hl];rfl
theorem tkS_good {st n a:Nat} {b:Bool} (h:(tkS st n (a,b)).2=false):b=false∧¬st-a<n:=by
 unfold tkS at h
 split at h
 ·cases h
 ·rename_i hn
  simp only[not_or] at hn
  exact⟨by simpa using hn.1,hn.2⟩
theorem tkV_bad {bs:List UInt8} {st n a:Nat} {b:Bool} (h:(tkS st n (a,b)).2=true):tkV bs st n (a,b)=[]:=by
 unfold tkS at h
 split at h
 ·rename_i hn;exact tkV_no hn
 ·cases h
set_option maxRecDepth 100000 in
set_option maxHeartbeats 8000000 in
theorem imByte_any {g gb ob c st:Nat} {bs:List UInt8} (s:RS) (w:World) (h:RdP g gb ob c st bs s w) :
  Calls Tryz.prog 231 #[.pointer (some ⟨g,0,none⟩)] w fun e w'=>e=.returned (.int .u8 ((byV bs st s).toNat:Int))∧RdPTo g gb ob c st bs (tkS st 1 s) w w':=by
 obtain⟨a,b⟩:=s
 have ht:=imTake_any (a,b) 1 w h (by omega)
 go_enter Tryz.func231,Tryz.ntmps231
 go_wp2_with fail
 refine ht.mono ?_
 rintro e w1 ⟨⟨v,rfl,hv⟩,hr⟩
 have HR:=Lib.hid hr
 have k3:=hr.r.bx.cell 3 (u:=.bool (tkS st 1 (a,b)).2) rfl
 clear ht h
 cases h2:(tkS st 1 (a,b)).2 with
 | true =>
  rw[h2] at k3
  have HV:Hid (byV bs st (a,b)=0):=by unfold Hid byV;rw[tkV_bad h2];rfl
  rw[tkV_bad h2] at hv
  obtain⟨A,c',rfl,-,-,-⟩:=hv
  clear h2 hr
  go_wp2
  go_ret
  rw[HV.out]
  exact⟨rfl,HR.out⟩
 | false =>
  rw[h2] at k3
  obtain⟨rfl,hn⟩:=tkS_good h2
  have hst:=hr.r.st_
  have hal:a<bs.length:=by omega
  have HV:Hid (byV bs st (a,false)=bs[a]):=byV_yes hn hal
  rw[tkV_yes hn] at hv
  have hl1:((bs.drop a).take 1).length=1:=by rw[List.length_take,List.length_drop];omega
  obtain⟨A,c',rfl,hc',hm',hx⟩:=hv
  rw[hl1] at hx hc' ⊢
  obtain⟨g',o',rfl,hb⟩:=hx (by omega)
  have k:=hb.cell (j:=0) (by omega)
  rw[Nat.add_zero,List.getElem_take,List.getElem_drop] at k
  simp only[Nat.add_zero] at k
  obtain⟨x,hx'⟩:∃x:UInt8,bs[a]=x:=⟨_,rfl⟩
  rw[hx'] at k HV
  clear h2 hr hx hb hl1 hx'
  go_wp2
  go_ret
  rw[HV.out]
  exact⟨rfl,HR.out⟩
theorem or_low (A B k:Nat) (hA:A<256^k) (hk:k≤7) (hB:B<256):bits .or .u64 (A:Int) ((B*256^k:Nat):Int)=((A+B*256^k:Nat):Int):=by
 have e:256^k=2^(8*k):=by rw[Nat.pow_mul]
 have h8:256^k≤256^7:=Nat.pow_le_pow_right (by omega) hk
 have hb2:B*256^k≤255*256^k:=Nat.mul_le_mul_right _ (by omega)
 rw[u64_or_nat A (B*256^k) (by omega) (by omega)]
 congr 1
 rw[e] at hA ⊢
 rw[Nat.or_comm,←Nat.shiftLeft_eq,←Nat.shiftLeft_add_eq_or_of_lt hA,Nat.add_comm]
theorem shl_low (B k:Nat) (hk:k≤7) (hB:B<256):IntKind.u64.wrap ((B:Int)*2^(8*k))=((B*256^k:Nat):Int):=by
 have h8:256^k≤256^7:=Nat.pow_le_pow_right (by omega) hk
 have hb2:B*256^k≤255*256^k:=Nat.mul_le_mul_right _ (by omega)
 have e:(B:Int)*2^(8*k)=((B*256^k:Nat):Int):=by
  rw[Int.natCast_mul,Int.natCast_pow,show((256:Nat):Int)=2^8 from rfl,←Int.pow_mul]
 rw[e,IntKind.wrap_u64];omega
theorem foldl_push (l:List UInt8):∀(s:ByteArray),bl ((l.map fun b=>((b.toNat:Nat):Int)).foldl (fun r n=>r.push (UInt8.ofNat n.toNat)) s)=bl s++l:=by
 induction l with
 | nil=>intro s;simp
 | cons b l ih =>
  intro s
  rw[List.map_cons,List.foldl_cons,ih]
  have e:UInt8.ofNat (((b.toNat:Nat):Int).toNat)=b:=by simp
  rw[e]
  have:bl (s.push b)=bl s++[b]:=by unfold bl;rw[ByteArray.data_push,Array.toList_push]
  rw[this,List.append_assoc];rfl
theorem bsv_string' {w:World} {v:Value} {l:List UInt8} (h:BsV w v l):∃t:ByteArray,(convert 68 9 v).run Tryz.prog w=.ok (.string t) w∧bl t=l:=by
 obtain⟨A,c,rfl,hc,hm,hx⟩:=h
 rw[run_convert_bytes_string w _ _ _ _ _ _ Tryz.underlying68 Tryz.underlying5 Tryz.underlying9]
 cases A with
 | none =>
  have h0:l=[]:=by
   cases l with
   | nil=>rfl
   | cons b l=>obtain⟨g,o,h,_⟩:=hx (by simp);cases h
  subst h0
  exact⟨_,rfl,rfl⟩
 | some a =>
  refine⟨_,run_bytesToString w a l.length c (l.map fun b=>((b.toNat:Nat):Int)) ?_,?_⟩
  ·have e:l.length=((l.map fun b=>((b.toNat:Nat):Int)).map (Value.int .u8)).length:=by simp
   rw[e]
   apply run_loadCells_list
   intro j v hv
   rcases Nat.eq_zero_or_pos l.length with h0|h0
   ·rw[List.eq_nil_of_length_eq_zero h0] at hv;simp at hv
   ·obtain⟨g,o,ha,hb⟩:=hx h0
    injection ha with ha
    subst ha
    rw[List.getElem?_map,List.getElem?_map] at hv
    cases hj:l[j]? with
    | none=>rw[hj] at hv;cases hv
    | some b =>
     rw[hj] at hv
     injection hv with hv
     rw[Addr.add_lit,←hv]
     exact hb.2 j b hj
  ·rw[foldl_push];rfl
theorem bsv_string {w:World} {v:Value} {l:List UInt8} (h:BsV w v l):(convert 68 9 v).run Tryz.prog w=.ok (.string (sb l)) w:=by
 obtain⟨t,h1,h2⟩:=bsv_string' h
 rw[h1,←h2,sb_bl]
theorem loN_next {l:List UInt8} {k:Nat} (hk:k<l.length):loN (l.take (k+1))=loN (l.take k)+l[k].toNat*256^k:=by
 rw[List.take_succ_eq_append_getElem hk,loN_snoc,List.length_take,Nat.min_eq_left (by omega)]
theorem loN_take_lt (l:List UInt8) (k:Nat):loN (l.take k)<256^k:=by
 have h1:=loN_lt (l.take k)
 have h2:(l.take k).length≤k:=by rw[List.length_take];omega
 exact Nat.lt_of_lt_of_le h1 (Nat.pow_le_pow_right (by omega) h2)
set_option maxRecDepth 100000 in
set_option maxHeartbeats 8000000 in
theorem imLow_any {g gb ob c st:Nat} {bs:List UInt8} (s:RS) (n:Nat) (w:World) (h:RdP g gb ob c st bs s w) (hn:n≤8) :
  Calls Tryz.prog 232 #[.pointer (some ⟨g,0,none⟩),.int .i64 (n:Int)] w fun e w'=>e=.returned (.int .i64 (IntKind.i64.wrap (loN (tkV bs st n s))))∧RdPTo g gb ob c st bs (tkS st n s) w w':=by
 have ht:=imTake_any s n w h (by omega)
 unfold ImTakePost at ht
 have hlen:(tkV bs st n s).length≤n:=tkV_len
 obtain⟨l,hl⟩:∃l,tkV bs st n s=l:=⟨_,rfl⟩
 rw[hl] at ht hlen ⊢
 go_enter Tryz.func232,Tryz.ntmps232
 go_wp2_with fail
 refine ht.mono ?_
 rintro e w1 ⟨⟨v,rfl,hv⟩,hr⟩
 have HR:=Lib.hid hr
 clear ht h
 obtain⟨A,c',rfl,hc',hm',hx⟩:=hv
 obtain⟨m,hm⟩:∃m,l.length=m:=⟨_,rfl⟩
 rw[hm] at hc' hx hlen ⊢
 have HX:=Lib.hid hx
 have HM:=Lib.hid hm
 unfold maxLen at hm'
 clear hx hm hr hl
 go_wp2
 go_loopw [5,12] (fun nv iv wr=>∃k:Nat,k≤m∧iv=.int .i64 (k:Int)∧nv=.int .u64 ((loN (l.take k):Nat):Int)∧wr=w1) (fun _ iv _=>m-(intOf iv).toNat)
 case atStart=>exact⟨0,Nat.zero_le _,rfl,rfl,rfl⟩
 case round =>
  obtain⟨k,hk,rfl,rfl,rfl⟩:=hrel
  by_cases hlt:k<m
  ·have hkl:k<l.length:=by rw[HM.out];exact hlt
   obtain⟨g',o',rfl,hb⟩:=HX.out (by omega)
   have k0:=hb.cell hkl
   have hnx:=loN_next hkl
   have htl:=loN_take_lt l k
   have hx8:=l[k].toNat_lt
   obtain⟨B,hB⟩:∃B:Nat,l[k].toNat=B:=⟨_,rfl⟩
   obtain⟨Ac,hAc⟩:∃Ac:Nat,loN (l.take k)=Ac:=⟨_,rfl⟩
   rw[hB] at k0 hnx hx8
   rw[hAc] at hnx htl ⊢
   have hk7:k≤7:=by omega
   have hsh:=shl_low B k hk7 (by omega)
   have hor:=or_low Ac B k htl hk7 (by omega)
   obtain⟨P,hP⟩:∃P:Nat,B*256^k=P:=⟨_,rfl⟩
   rw[hP] at hsh hor hnx
   have HNX:=Lib.hid hnx
   have hm8:IntKind.i64.wrap (8*(k:Int))=((8*k:Nat):Int):=by rw[IntKind.wrap_i64];omega
   have htn:(((8*k:Nat):Int)).toNat=8*k:=by omega
   have hw8:IntKind.u64.wrap (B:Int)=(B:Int):=by rw[IntKind.wrap_u64];omega
   clear hb hB hAc hP hnx htl
   go_wp2
   go_roundw
   case rel=>exact⟨k+1,hlt,by go_num,by rw[HNX.out,Int.natCast_add],by trivial⟩
   case measure=>simp[intOf];omega
  ·have hkn:l.take k=l:=List.take_of_length_le (by rw[HM.out];omega)
   rw[hkn]
   clear hkn
   obtain⟨N,hN⟩:∃N:Int,((loN l:Nat):Int)=N:=⟨_,rfl⟩
   rw[hN]
   have HN:=Lib.hid hN
   clear hN
   go_wp2
   go_ret
   rw[HN.out]
   rw[show IntKind.i64.wrap N=wrap64 N by simp only[IntKind.wrap_i64,wrap64]]
   exact⟨rfl,HR.out⟩
theorem imNum_any {g gb ob c st:Nat} {bs:List UInt8} (s:RS) (w:World) (h:RdP g gb ob c st bs s w) :
  Calls Tryz.prog 234 #[.pointer (some ⟨g,0,none⟩)] w fun e w'=>e=.returned (.int .i64 (n8V bs st s))∧RdPTo g gb ob c st bs (n8S st s) w w':=by
 have ht:=imLow_any s 8 w h (by omega)
 go_enter Tryz.func234,Tryz.ntmps234
 go_wp2_with fail
 refine ht.mono ?_
 rintro e w1 ⟨rfl,hr⟩
 have HR:=Lib.hid hr
 clear ht h hr
 go_wp2
 go_ret
 exact⟨rfl,HR.out⟩
theorem imText_any {g gb ob c st:Nat} {bs:List UInt8} (s:RS) (w:World) (h:RdP g gb ob c st bs s w) :
  Calls Tryz.prog 233 #[.pointer (some ⟨g,0,none⟩)] w fun e w'=>e=.returned (.string (sb (txV bs st s)))∧RdPTo g gb ob c st bs (txS bs st s) w w':=by
 have h1:=imByte_any s w h
 have h2:=fun W (hW:RdP g gb ob c st bs (tkS st 1 s) W)=>imTake_any (tkS st 1 s) (byV bs st s).toNat W hW (by have:=(byV bs st s).toNat_lt;omega)
 have hx8:=(byV bs st s).toNat_lt
 obtain⟨B,hB⟩:∃B:Nat,(byV bs st s).toNat=B:=⟨_,rfl⟩
 have HS:Hid (txS bs st s=tkS st B (tkS st 1 s)):=by unfold Hid txS;rw[hB]
 have HV:Hid (txV bs st s=tkV bs st B (tkS st 1 s)):=by unfold Hid txV;rw[hB]
 rw[hB] at h1 h2 hx8
 have H2:=Lib.hid h2
 clear hB h2
 go_enter Tryz.func233,Tryz.ntmps233
 go_wp2_with fail
 refine h1.mono ?_
 rintro e w1 ⟨rfl,hr⟩
 have HR1:=Lib.hid hr
 have h3:=H2.out w1 hr.r
 clear h1 hr h H2
 go_wp2_with fail
 refine h3.mono ?_
 rintro e w2 ⟨⟨v,rfl,hv⟩,hr2⟩
 have HR2:=Lib.hid (HR1.out.then_ hr2)
 have hcv:=bsv_string hv
 obtain⟨l,hl⟩:∃l,tkV bs st B (tkS st 1 s)=l:=⟨_,rfl⟩
 rw[hl] at hcv
 have HL:=Lib.hid hl
 clear h3 hr2 hv HR1 hl
 go_wp2
 go_ret
 rw[HS.out,HV.out,HL.out]
 exact⟨rfl,HR2.out⟩
set_option maxRecDepth 100000 in
set_option maxHeartbeats 4000000 in
theorem csum_up (v:Value) (bs:List UInt8) (w:World) (h:BsV w v bs) :
  Calls Tryz.prog 241 #[.int .u32 0,v] w fun e w'=>e=.returned (.int .u32 (crcF bs))∧w=w':=by
 obtain⟨A,c,rfl,hc,hm,hx⟩:=h
 unfold maxLen at hm
 obtain⟨n,hn⟩:∃n,bs.length=n:=⟨_,rfl⟩
 rw[hn] at hc hx ⊢
 have HX:=Lib.hid hx
 have HN:=Lib.hid hn
 have HF:Hid (crcF bs=bits .xor .u32 IntKind.u32.max (crG 4294967295 bs)):=rfl
 have hb0:=crG_bd bs (r:=4294967295) (by omega)
 clear hx hn
 go_enter Tryz.func241,Tryz.ntmps241
 go_wp2_with fail
 go_loopw [5,12] (fun rv iv wr=>∃k:Nat,k≤n∧iv=.int .i64 (k:Int)∧rv=.int .u32 (crG 4294967295 (bs.take k))∧wr=w) (fun _ iv _=>n-(intOf iv).toNat)
 case atStart=>exact⟨0,Nat.zero_le _,by first|rfl|go_num,rfl,by trivial⟩
 case round =>
  obtain⟨k,hk,rfl,rfl,rfl⟩:=hrel
  by_cases hlt:k<n
  ·have hkl:k<bs.length:=by rw[HN.out];exact hlt
   obtain⟨g',o',rfl,hb⟩:=HX.out (by omega)
   have k0:=hb.cell hkl
   have hnx:=crG_snoc 4294967295 bs k hkl
   have hbd:=crG_bd (bs.take k) (r:=4294967295) (by omega)
   obtain⟨x,hx⟩:∃x:UInt8,bs[k]=x:=⟨_,rfl⟩
   rw[hx] at k0 hnx
   obtain⟨r,hr⟩:∃r,crG 4294967295 (bs.take k)=r:=⟨_,rfl⟩
   rw[hr] at hnx hbd ⊢
   have HNX:=Lib.hid hnx
   have hst:=Lib.hid (fun W=>cstep_any r x W hbd.1 hbd.2)
   clear hb hx hr hnx
   go_wp2_with fail
   refine(hst.out _).mono ?_
   rintro e w1 ⟨rfl,rfl⟩
   clear hst
   go_wp2
   go_roundw
   case rel=>exact⟨k+1,hlt,by go_num,by rw[HNX.out],by trivial⟩
   case measure=>simp[intOf];omega
  ·have hkn:bs.take k=bs:=List.take_of_length_le (by rw[HN.out];omega)
   rw[hkn]
   obtain⟨r,hr⟩:∃r,crG 4294967295 bs=r:=⟨_,rfl⟩
   rw[hr] at hb0 ⊢
   have HR:=Lib.hid hr
   clear hkn hr
   go_wp2
   go_ret
   rw[HF.out,HR.out]
   exact⟨rfl,by trivial⟩
theorem csum_any (v:Value) (bs:List UInt8) (w:World) (h:BsV w v bs) :
  Calls Tryz.prog 157 #[v] w fun e w'=>e=.returned (.int .u32 (crcF bs))∧w=w':=by
 have hu:=csum_up v bs w h
 clear h
 go_enter Tryz.func157,Tryz.ntmps157
 go_wp2_with fail
 refine hu.mono ?_
 rintro e w1 ⟨rfl,rfl⟩
 clear hu
 go_wp2
 go_ret
 exact⟨rfl,rfl⟩
set_option maxRecDepth 100000 in
set_option maxHeartbeats 4000000 in
theorem rcsum_up (v:Value) (bs:List UInt8) (w:World) (h:BsV w v bs) :
  Calls Tryz.prog 302 #[.int .u32 0,v] w fun e w'=>e=.returned (.int .u32 (crcF bs))∧w=w':=by
 obtain⟨A,c,rfl,hc,hm,hx⟩:=h
 unfold maxLen at hm
 obtain⟨n,hn⟩:∃n,bs.length=n:=⟨_,rfl⟩
 rw[hn] at hc hx ⊢
 have HX:=Lib.hid hx
 have HN:=Lib.hid hn
 have HF:Hid (crcF bs=bits .xor .u32 IntKind.u32.max (crG 4294967295 bs)):=rfl
 have hb0:=crG_bd bs (r:=4294967295) (by omega)
 clear hx hn
 go_enter Tryz.func302,Tryz.ntmps302
 go_wp2_with fail
 go_loopw [5,12] (fun rv iv wr=>∃k:Nat,k≤n∧iv=.int .i64 (k:Int)∧rv=.int .u32 (crG 4294967295 (bs.take k))∧wr=w) (fun _ iv _=>n-(intOf iv).toNat)
 case atStart=>exact⟨0,Nat.zero_le _,by first|rfl|go_num,rfl,by trivial⟩
 case round =>
  obtain⟨k,hk,rfl,rfl,rfl⟩:=hrel
  by_cases hlt:k<n
  ·have hkl:k<bs.length:=by rw[HN.out];exact hlt
   obtain⟨g',o',rfl,hb⟩:=HX.out (by omega)
   have k0:=hb.cell hkl
   have hnx:=crG_snoc 4294967295 bs k hkl
   have hbd:=crG_bd (bs.take k) (r:=4294967295) (by omega)
   obtain⟨x,hx⟩:∃x:UInt8,bs[k]=x:=⟨_,rfl⟩
   rw[hx] at k0 hnx
   obtain⟨r,hr⟩:∃r,crG 4294967295 (bs.take k)=r:=⟨_,rfl⟩
   rw[hr] at hnx hbd ⊢
   have HNX:=Lib.hid hnx
   have hst:=Lib.hid (fun W=>rcstep_any r x W hbd.1 hbd.2)
   clear hb hx hr hnx
   go_wp2_with fail
   refine(hst.out _).mono ?_
   rintro e w1 ⟨rfl,rfl⟩
   clear hst
   go_wp2
   go_roundw
   case rel=>exact⟨k+1,hlt,by go_num,by rw[HNX.out],by trivial⟩
   case measure=>simp[intOf];omega
  ·have hkn:bs.take k=bs:=List.take_of_length_le (by rw[HN.out];omega)
   rw[hkn]
   obtain⟨r,hr⟩:∃r,crG 4294967295 bs=r:=⟨_,rfl⟩
   rw[hr] at hb0 ⊢
   have HR:=Lib.hid hr
   clear hkn hr
   go_wp2
   go_ret
   rw[HF.out,HR.out]
   exact⟨rfl,by trivial⟩
theorem rcsum_any (v:Value) (bs:List UInt8) (w:World) (h:BsV w v bs) :
  Calls Tryz.prog 245 #[v] w fun e w'=>e=.returned (.int .u32 (crcF bs))∧w=w':=by
 have hu:=rcsum_up v bs w h
 clear h
 go_enter Tryz.func245,Tryz.ntmps245
 go_wp2_with fail
 refine hu.mono ?_
 rintro e w1 ⟨rfl,rfl⟩
 clear hu
 go_wp2
 go_ret
 exact⟨rfl,rfl⟩
theorem infoU8b:(Tryz.prog.info? 5).map (fun i=>(i.zero,i.size,i.bytes))=some (some (.int .u8 0),1,1):=by kernel_rfl
theorem u8cells_one (bs:List UInt8):∀u∈bs.map u8c,u.oneCell'=true:=by
 intro u hu
 obtain⟨b,_,rfl⟩:=List.mem_map.1 hu
 rfl
theorem BsA.news {w W:World} {g o:Nat} {bs:List UInt8} (h:BsA w g o bs) (hb:Below w.heap.size w W):∀j u,(bs.map u8c)[j]? = some u→W.cell? ((⟨g,o,none⟩:Addr).add j)=some u:=by
 intro j u hu
 rw[List.getElem?_map] at hu
 cases hj:bs[j]? with
 | none=>rw[hj] at hu;cases hu
 | some b =>
  rw[hj] at hu
  injection hu with hu
  rw[Addr.add_lit,←hu]
  exact(h.below hb).2 j b hj
def BsNew (bs:List UInt8) (w:World) (v:Value) (w':World):Prop:=∃gb c,v=.slice (some ⟨gb,0,none⟩) bs.length c∧bs.length≤c∧c≤maxLen∧w.heap.size≤gb∧BsA w' gb 0 bs∧Below w.heap.size w w'
theorem BsNew.of_own {bs:List UInt8} {w w':World} {g cap:Nat} (h:w'.ownsRow w.heap.size 5 1 (.slice (some ⟨g,0,none⟩) bs.length cap) bs.length (bs.map u8c)) (hb:Below w.heap.size w w'):BsNew bs w (.slice (some ⟨g,0,none⟩) bs.length cap) w':=by
 have hlt:=h.lt g rfl
 have hcs:=h.cells (g:=g) rfl
 obtain⟨_,⟨h2,_⟩|⟨b,cap',cur,hv,_,_,h3,h4,_⟩⟩:=h
 ·cases h2
 ·injection hv with e1 e2 e3
  subst e3
  refine⟨g,cap,rfl,by omega,h4,hlt.1,⟨hlt.2,fun j b hb => ?_⟩,hb⟩
  have:=hcs j (u8c b) (by rw[List.getElem?_map,hb];rfl)
  rwa [Addr.add_lit] at this
set_option maxRecDepth 100000 in
set_option maxHeartbeats 2000000 in
theorem cloneB_any (g o c:Nat) (bs:List UInt8) (w:World) (h:BsA w g o bs) (hc:bs.length≤c) (hm:c≤maxLen) (hN:bs.length≤1000000000) :
  Calls Tryz.prog 158 #[.slice (some ⟨g,o,none⟩) bs.length c] w fun e w'=>∃v,e=.returned v∧BsNew bs w v w':=by
 obtain⟨i0,hi,hz0,hz1,hz2⟩:=info_parts infoU8b
 have hnil:∀W,(binOp .eql 68 (.slice (some ⟨g,o,none⟩) bs.length c) (.slice none 0 0)).run Tryz.prog W=.ok (.bool false) W:=fun W=>Lib.run_eql_slice_nil W _ _ _ _ _ _ _ Tryz.underlying68
 have HEMP:=Lib.hid (World.ownsRow_lit (base:=w.heap.size) (e:=5) (size:=1) w #[] 0 (Nat.le_refl _) (by unfold maxLen;omega) rfl)
 have hba:Below w.heap.size w (w.alloc (.cells #[] 5)):=(Below.refl _ _).alloc (Nat.le_refl _) _
 have HX:=Lib.hid (h.news hba)
 have HONE:=Lib.hid (u8cells_one bs)
 have HL2:Hid ((bs.map u8c).length=bs.length*1):=by unfold Hid;simp
 have H0:Hid (bs.length=0→BsNew bs w (.slice (some ⟨w.heap.size,0,none⟩) bs.length 0) (w.alloc (.cells #[] 5))):=by
  intro h0
  refine⟨w.heap.size,0,rfl,by omega,by unfold maxLen;omega,Nat.le_refl _,?_,hba⟩
  rw[List.eq_nil_of_length_eq_zero h0]
  exact BsA.nil (by simp)
 unfold maxLen at hm
 obtain⟨n,hn⟩:∃n,bs.length=n:=⟨_,rfl⟩
 have HN:=Lib.hid hn
 rw[hn] at hc hN hnil HL2 H0 ⊢
 clear h hba hn
 rcases Nat.eq_zero_or_pos n with h0|h0
 ·have HZ:=Lib.hid (H0.out h0)
  subst h0
  clear H0
  go_enter Tryz.func158,Tryz.ntmps158
  go_wp2
  go_ret
  exact⟨_,rfl,HZ.out⟩
 ·clear H0
  go_enter Tryz.func158,Tryz.ntmps158
  go_wp2_with (at_builtin;(refine wpList_append_lies _ rfl _ _ 68 rfl w.heap.size 5 i0 (.int .u8 0) 1 1 Tryz.underlying68 hi hz0 hz1 hz2 rfl (by decide) _ _ _ rfl HEMP.out ⟨g,o,none⟩ n c (bs.map u8c) rfl HL2.out HX.out HONE.out h0 ?c3 ?c4 ?c5 _ rfl ?_))
  case c3=>unfold maxLen;omega
  case c4=>omega
  intro gg cap w' hown' hgrow hor hgg
  have HB:Hid (Below w.heap.size w w'):=(((Below.refl _ _).alloc (Nat.le_refl _) _).grown hgrow (by simp) (fun k hk=>by cases hk;exact Nat.le_refl _))
  have HO:Hid (BsNew bs w (.slice (some ⟨gg,0,none⟩) n cap) w'):=by
   have h2:w'.ownsRow w.heap.size 5 1 (.slice (some ⟨gg,0,none⟩) bs.length cap) bs.length (bs.map u8c):=by rw[HN.out];simpa using hown'
   have h3:=BsNew.of_own h2 HB.out
   rw[HN.out] at h3
   exact h3
  clear hown' hgrow hor hgg
  try rw[Nat.zero_add]
  go_wp2
  go_ret
  exact⟨_,rfl,HO.out⟩
end Go.Proofs.YtgmehlgfilpleaaGreatDoor
