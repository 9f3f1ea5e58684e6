/-
  Several texts as one.
-/
import Derived.Test.YtgmehlgfilpleaaGreatDoorMG04
namespace Go.Proofs.YtgmehlgfilpleaaGreatDoor
open Go.RowKit
set_option linter.unusedVariables false
set_option linter.unusedSimpArgs false
def janN (y:Nat):Nat:=365*y+(y+3)/4
def fstN (y:Nat):Nat:=if y=0 then 26 else 26+(janN y+1)/28*28
def mdN (y m:Nat):Nat:=if m=2 then (if y%4=0 then 29 else 28) else if m=4∨m=6∨m=9∨m=11 then 30 else 31
def cumN (y:Nat):Nat→Nat
 | 0=>0
 | 1=>0
 | m+2=>cumN y (m+1)+mdN y (m+1)
def cdX (y k:Nat):Nat:=fstN y+(k-1)*28
def cdE (n:Int):Int:=if n<0∨9999<n then 2 else if n.toNat%100=0∨janN (n.toNat/100+1)≤cdX (n.toNat/100) (n.toNat%100) then 6 else 0
def cdF (n:Int):Int:=if cdE n=0 then (cdX (n.toNat/100) (n.toNat%100):Int) else 0
def cdT (n:Int):Int:=if cdE n=0 then (cdX (n.toNat/100) (n.toNat%100):Int)+28 else 0
theorem jan_step (y:Nat):janN y+365≤janN (y+1)∧janN (y+1)≤janN y+366:=by unfold janN;omega
theorem jan_mono {a b:Nat} (h:a≤b):janN a≤janN b:=by unfold janN;omega
theorem jan_bd {y:Nat} (h:y≤100):janN y≤36525:=by unfold janN;omega
theorem fst_bd (y:Nat):janN y≤fstN y∧fstN y≤janN y+28∧26≤fstN y∧fstN y%28=26:=by
 unfold fstN janN
 split
 ·subst_vars;omega
 ·omega
theorem fst_le {y d:Nat} (h:janN y≤d) (h2:d%28=26) (h3:26≤d):fstN y≤d:=by
 unfold fstN
 split
 ·exact h3
 ·unfold janN at h ⊢;omega
theorem year_of (d:Nat) (h:d≤36524):∃y,y<100∧janN y≤d∧d<janN (y+1):=by
 have key:∀n,n≤100→d<janN n→∃y,y<n∧janN y≤d∧d<janN (y+1):=by
  intro n
  induction n with
  | zero=>intro _ h;unfold janN at h;omega
  | succ n ih =>
   intro hn hd
   by_cases h1:d<janN n
   ·obtain⟨y,h2,h3⟩:=ih (by omega) h1
    exact⟨y,by omega,h3⟩
   ·exact⟨n,by omega,by omega,hd⟩
 exact key 100 (Nat.le_refl _) (by show d<36525;omega)
theorem year_uniq {a b d:Nat} (h1:janN a≤d) (h2:d<janN (a+1)) (h3:janN b≤d) (h4:d<janN (b+1)):a=b:=by
 rcases Nat.lt_trichotomy a b with h|h|h
 ·have:=jan_mono (show a+1≤b by omega);omega
 ·exact h
 ·have:=jan_mono (show b+1≤a by omega);omega
theorem md_bd (y m:Nat):28≤mdN y m∧mdN y m≤31:=by unfold mdN;split <;> (try split) <;> (try split) <;> omega
theorem cum_12 (y:Nat):cumN y 12+31=janN (y+1)-janN y:=by
 show cumN y 12+31=_
 by_cases h:y%4=0
 ·simp[cumN,mdN,janN,h];omega
 ·simp[cumN,mdN,janN,h];omega
theorem cum_bd (y m:Nat) (h:m≤12):cumN y m≤335:=by
 have h2:∀k,cumN y k≤cumN y (k+1):=by
  intro k
  cases k with
  | zero=>exact Nat.le_refl _
  | succ k=>show _≤cumN y (k+1)+_;omega
 have h3:∀j k,cumN y k≤cumN y (k+j):=by
  intro j
  induction j with
  | zero=>intro k;exact Nat.le_refl _
  | succ j ih=>intro k;exact Nat.le_trans (ih k) (h2 (k+j))
 have h4:=h3 (12-m) m
 rw[show m+(12-m)=12 by omega] at h4
 have h5:=cum_12 y
 have:=jan_step y
 omega
theorem cd_of {y k:Nat} (hk:k<100) (hy:y<100) (h1:1≤k) (h2:cdX y k<janN (y+1)):cdE ((100*y+k:Nat):Int)=0∧cdF ((100*y+k:Nat):Int)=(cdX y k:Int)∧cdT ((100*y+k:Nat):Int)=(cdX y k:Int)+28:=by
 have h:cdE ((100*y+k:Nat):Int)=0:=by
  unfold cdE
  rw[Int.toNat_natCast,show(100*y+k)%100=k by omega,show(100*y+k)/100=y by omega,if_neg (by omega),if_neg (by omega)]
 refine⟨h,?_,?_⟩
 ·unfold cdF;rw[if_pos h,Int.toNat_natCast,show(100*y+k)%100=k by omega,show(100*y+k)/100=y by omega]
 ·unfold cdT;rw[if_pos h,Int.toNat_natCast,show(100*y+k)%100=k by omega,show(100*y+k)/100=y by omega]
theorem cd_not {y k:Nat} (hk:k<100) (hy:y<100) (h:k=0∨janN (y+1)≤cdX y k):cdE ((100*y+k:Nat):Int)=6∧cdF ((100*y+k:Nat):Int)=0∧cdT ((100*y+k:Nat):Int)=0:=by
 have h:cdE ((100*y+k:Nat):Int)=6:=by
  unfold cdE
  rw[Int.toNat_natCast,show(100*y+k)%100=k by omega,show(100*y+k)/100=y by omega,if_neg (by omega),if_pos h]
 refine⟨h,?_,?_⟩
 ·unfold cdF;rw[if_neg (by omega)]
 ·unfold cdT;rw[if_neg (by omega)]
theorem cd_out {n:Int} (h:n<0∨9999<n):cdE n=2∧cdF n=0∧cdT n=0:=by
 have h:cdE n=2:=by unfold cdE;rw[if_pos h]
 refine⟨h,?_,?_⟩
 ·unfold cdF;rw[if_neg (by omega)]
 ·unfold cdT;rw[if_neg (by omega)]
theorem leap_any (y:Nat) (w:World) (h:y<100):Calls Tryz.prog 379 #[.int .i64 (2000+(y:Int))] w fun e w'=>e=.returned (.bool (decide (y%4=0)))∧w=w':=by
 have h1:(2000:Int)≤2000+(y:Int):=by omega
 have h2:2000+(y:Int)≤2099:=by omega
 by_cases h0:y%4=0
 ·have HD:Hid (decide (y%4=0)=true):=decide_eq_true h0
  have e1:((2000+(y:Int)).tmod 4 == 0)=true:=by rw[Int.tmod_eq_emod_of_nonneg (by omega),beq_iff_eq];omega
  have e2:((2000+(y:Int))%4 == 0)=true:=by rw[beq_iff_eq];omega
  clear h0
  go_enter Tryz.func379,Tryz.ntmps379
  go_wp2
  go_ret
  exact⟨ret_bool (by rw[HD.out]),rfl⟩
 ·have HD:Hid (decide (y%4=0)=false):=decide_eq_false h0
  have e1:((2000+(y:Int)).tmod 4 == 0)=false:=by rw[Int.tmod_eq_emod_of_nonneg (by omega),beq_eq_false_iff_ne];omega
  have e2:((2000+(y:Int))%4 == 0)=false:=by rw[beq_eq_false_iff_ne];omega
  clear h0
  go_enter Tryz.func379,Tryz.ntmps379
  go_wp2
  go_ret
  exact⟨ret_bool (by rw[HD.out]),rfl⟩
theorem rleap_any (y:Nat) (w:World) (h:y<100):Calls Tryz.prog 278 #[.int .i64 (2000+(y:Int))] w fun e w'=>e=.returned (.bool (decide (y%4=0)))∧w=w':=by
 have h1:(2000:Int)≤2000+(y:Int):=by omega
 have h2:2000+(y:Int)≤2099:=by omega
 by_cases h0:y%4=0
 ·have HD:Hid (decide (y%4=0)=true):=decide_eq_true h0
  have e1:((2000+(y:Int)).tmod 4 == 0)=true:=by rw[Int.tmod_eq_emod_of_nonneg (by omega),beq_iff_eq];omega
  have e2:((2000+(y:Int))%4 == 0)=true:=by rw[beq_iff_eq];omega
  clear h0
  go_enter Tryz.func278,Tryz.ntmps278
  go_wp2
  go_ret
  exact⟨ret_bool (by rw[HD.out]),rfl⟩
 ·have HD:Hid (decide (y%4=0)=false):=decide_eq_false h0
  have e1:((2000+(y:Int)).tmod 4 == 0)=false:=by rw[Int.tmod_eq_emod_of_nonneg (by omega),beq_eq_false_iff_ne];omega
  have e2:((2000+(y:Int))%4 == 0)=false:=by rw[beq_eq_false_iff_ne];omega
  clear h0
  go_enter Tryz.func278,Tryz.ntmps278
  go_wp2
  go_ret
  exact⟨ret_bool (by rw[HD.out]),rfl⟩
theorem january_any (y:Nat) (w:World) (h:y≤100):Calls Tryz.prog 275 #[.int .i64 (2000+(y:Int))] w fun e w'=>e=.returned (.int .i64 (janN y:Int))∧w=w':=by
 have HJ:Hid ((janN y:Int)=365*(y:Int)+((y:Int)+3)/4):=by unfold Hid janN;omega
 have e0:2000+(y:Int)-2000=(y:Int):=by omega
 go_enter Tryz.func275,Tryz.ntmps275
 go_wp2
 go_ret
 exact⟨ret_int (by rw[HJ.out];try omega),rfl⟩
theorem firstOf_any (y:Nat) (w:World) (h:y<100):Calls Tryz.prog 197 #[.int .i64 (2000+(y:Int))] w fun e w'=>e=.returned (.int .i64 (fstN y:Int))∧w=w':=by
 have hb:=jan_bd (y:=y) (by omega)
 by_cases h0:y=0
 ·have HF:Hid ((fstN y:Int)=26):=by unfold Hid fstN;rw[if_pos h0];rfl
  have h2:(janN y:Int)-26≤0:=by subst h0;decide
  clear h0
  go_enter Tryz.func197,Tryz.ntmps197
  go_wp2_with fail
  refine(january_any y _ (by omega)).mono ?_
  rintro e w1 ⟨rfl,rfl⟩
  go_wp2
  go_ret
  exact⟨ret_int HF.out.symm,rfl⟩
 ·have h2:¬(janN y:Int)-26≤0:=by unfold janN;omega
  have HF:Hid ((fstN y:Int)=26+((janN y:Int)-26+27)/28*28):=by unfold Hid fstN;rw[if_neg h0];omega
  clear h0
  go_enter Tryz.func197,Tryz.ntmps197
  go_wp2_with fail
  refine(january_any y _ (by omega)).mono ?_
  rintro e w1 ⟨rfl,rfl⟩
  obtain⟨J,hJ⟩:∃J:Int,(janN y:Int)=J:=⟨_,rfl⟩
  have hJ1:J≤36525:=by omega
  rw[hJ] at h2 HF ⊢
  clear hJ hb
  go_wp2
  go_ret
  exact⟨ret_int (by rw[HF.out];try omega),rfl⟩
theorem mixG0 (w:World):(Instr.index 394 (.agg #[.int .i64 31,.int .i64 28,.int .i64 31,.int .i64 30,.int .i64 31,.int .i64 30,.int .i64 31,.int .i64 31,.int .i64 30,.int .i64 31,.int .i64 30,.int .i64 31]) (.int .i64 0)).run Tryz.prog w=.ok (.int .i64 31) w:=by kernel_rfl
theorem mixG1 (w:World):(Instr.index 394 (.agg #[.int .i64 31,.int .i64 28,.int .i64 31,.int .i64 30,.int .i64 31,.int .i64 30,.int .i64 31,.int .i64 31,.int .i64 30,.int .i64 31,.int .i64 30,.int .i64 31]) (.int .i64 1)).run Tryz.prog w=.ok (.int .i64 28) w:=by kernel_rfl
theorem mixG2 (w:World):(Instr.index 394 (.agg #[.int .i64 31,.int .i64 28,.int .i64 31,.int .i64 30,.int .i64 31,.int .i64 30,.int .i64 31,.int .i64 31,.int .i64 30,.int .i64 31,.int .i64 30,.int .i64 31]) (.int .i64 2)).run Tryz.prog w=.ok (.int .i64 31) w:=by kernel_rfl
theorem mixG3 (w:World):(Instr.index 394 (.agg #[.int .i64 31,.int .i64 28,.int .i64 31,.int .i64 30,.int .i64 31,.int .i64 30,.int .i64 31,.int .i64 31,.int .i64 30,.int .i64 31,.int .i64 30,.int .i64 31]) (.int .i64 3)).run Tryz.prog w=.ok (.int .i64 30) w:=by kernel_rfl
theorem mixG4 (w:World):(Instr.index 394 (.agg #[.int .i64 31,.int .i64 28,.int .i64 31,.int .i64 30,.int .i64 31,.int .i64 30,.int .i64 31,.int .i64 31,.int .i64 30,.int .i64 31,.int .i64 30,.int .i64 31]) (.int .i64 4)).run Tryz.prog w=.ok (.int .i64 31) w:=by kernel_rfl
theorem mixG5 (w:World):(Instr.index 394 (.agg #[.int .i64 31,.int .i64 28,.int .i64 31,.int .i64 30,.int .i64 31,.int .i64 30,.int .i64 31,.int .i64 31,.int .i64 30,.int .i64 31,.int .i64 30,.int .i64 31]) (.int .i64 5)).run Tryz.prog w=.ok (.int .i64 30) w:=by kernel_rfl
theorem mixG6 (w:World):(Instr.index 394 (.agg #[.int .i64 31,.int .i64 28,.int .i64 31,.int .i64 30,.int .i64 31,.int .i64 30,.int .i64 31,.int .i64 31,.int .i64 30,.int .i64 31,.int .i64 30,.int .i64 31]) (.int .i64 6)).run Tryz.prog w=.ok (.int .i64 31) w:=by kernel_rfl
theorem mixG7 (w:World):(Instr.index 394 (.agg #[.int .i64 31,.int .i64 28,.int .i64 31,.int .i64 30,.int .i64 31,.int .i64 30,.int .i64 31,.int .i64 31,.int .i64 30,.int .i64 31,.int .i64 30,.int .i64 31]) (.int .i64 7)).run Tryz.prog w=.ok (.int .i64 31) w:=by kernel_rfl
theorem mixG8 (w:World):(Instr.index 394 (.agg #[.int .i64 31,.int .i64 28,.int .i64 31,.int .i64 30,.int .i64 31,.int .i64 30,.int .i64 31,.int .i64 31,.int .i64 30,.int .i64 31,.int .i64 30,.int .i64 31]) (.int .i64 8)).run Tryz.prog w=.ok (.int .i64 30) w:=by kernel_rfl
theorem mixG9 (w:World):(Instr.index 394 (.agg #[.int .i64 31,.int .i64 28,.int .i64 31,.int .i64 30,.int .i64 31,.int .i64 30,.int .i64 31,.int .i64 31,.int .i64 30,.int .i64 31,.int .i64 30,.int .i64 31]) (.int .i64 9)).run Tryz.prog w=.ok (.int .i64 31) w:=by kernel_rfl
theorem mixG10 (w:World):(Instr.index 394 (.agg #[.int .i64 31,.int .i64 28,.int .i64 31,.int .i64 30,.int .i64 31,.int .i64 30,.int .i64 31,.int .i64 31,.int .i64 30,.int .i64 31,.int .i64 30,.int .i64 31]) (.int .i64 10)).run Tryz.prog w=.ok (.int .i64 30) w:=by kernel_rfl
theorem mixG11 (w:World):(Instr.index 394 (.agg #[.int .i64 31,.int .i64 28,.int .i64 31,.int .i64 30,.int .i64 31,.int .i64 30,.int .i64 31,.int .i64 31,.int .i64 30,.int .i64 31,.int .i64 30,.int .i64 31]) (.int .i64 11)).run Tryz.prog w=.ok (.int .i64 31) w:=by kernel_rfl
set_option maxRecDepth 100000 in
set_option maxHeartbeats 4000000 in
theorem monthDays_any (y k:Nat) (w:World) (hy:y<100) (h1:1≤k) (h2:k≤12):Calls Tryz.prog 342 #[.int .i64 (2000+(y:Int)),.int .i64 (k:Int)] w fun e w'=>e=.returned (.int .i64 (mdN y k:Int))∧w=w':=by
 have h:k=1∨k=2∨k=3∨k=4∨k=5∨k=6∨k=7∨k=8∨k=9∨k=10∨k=11∨k=12:=by omega
 have y1:(2000:Int)≤2000+(y:Int):=by omega
 have y2:2000+(y:Int)≤2099:=by omega
 have lp:=fun w=>leap_any y w hy
 clear h1 h2
 have x0:=mixG0
 have x1:=mixG1
 have x2:=mixG2
 have x3:=mixG3
 have x4:=mixG4
 have x5:=mixG5
 have x6:=mixG6
 have x7:=mixG7
 have x8:=mixG8
 have x9:=mixG9
 have x10:=mixG10
 have x11:=mixG11
 rcases h with rfl|rfl|rfl|rfl|rfl|rfl|rfl|rfl|rfl|rfl|rfl|rfl
 case inr.inl =>
  by_cases h0:y%4=0
  ·have HD:Hid (((mdN y 2:Nat):Int)=29):=by unfold Hid mdN;rw[if_pos rfl,if_pos h0];rfl
   rw[decide_eq_true h0] at lp
   clear h0
   go_enter Tryz.func342,Tryz.ntmps342
   go_wp2_with fail
   refine(lp _).mono ?_
   rintro e w1 ⟨rfl,rfl⟩
   go_wp2
   go_ret
   exact⟨ret_int HD.out.symm,rfl⟩
  ·have HD:Hid (((mdN y 2:Nat):Int)=28):=by unfold Hid mdN;rw[if_pos rfl,if_neg h0];rfl
   rw[decide_eq_false h0] at lp
   clear h0
   go_enter Tryz.func342,Tryz.ntmps342
   go_wp2_with fail
   refine(lp _).mono ?_
   rintro e w1 ⟨rfl,rfl⟩
   go_wp2
   go_ret
   exact⟨ret_int HD.out.symm,rfl⟩
 all_goals
  go_enter Tryz.func342,Tryz.ntmps342
  go_wp2
  go_ret
  exact⟨rfl,by first|rfl|trivial⟩
def DatePost (y:Nat) (w:World) (e:Ending) (w':World):Prop:=∃m d:Int,e=.returned (.tuple #[.int .i64 (2000+(y:Int)),.int .i64 m,.int .i64 d,.int .i64 0])∧w=w'
set_option maxRecDepth 100000 in
set_option maxHeartbeats 4000000 in
theorem date_any (d y:Nat) (w:World) (hd:d≤36524) (hy:y<100) (h1:janN y≤d) (h2:d<janN (y+1)):Calls Tryz.prog 276 #[.int .i64 (d:Int)] w (DatePost y w):=by
 have hj0:d/366≤y:=by unfold janN at h2;omega
 obtain⟨j0,hj⟩:∃j,d/366=j:=⟨_,rfl⟩
 rw[hj] at hj0
 have e1:(d:Int)/366=(j0:Int):=by rw[←hj];rfl
 have e2:(d:Int).tdiv 366=(j0:Int):=by rw[←hj];exact Int.ofNat_tdiv d 366
 have HJ:=Lib.hid hj0
 have H1:=Lib.hid h1
 have H2:=Lib.hid h2
 have HP:=Lib.hid (fun(m dd:Int) (W:World) (h:w=W)=>(⟨m,dd,rfl,h⟩:DatePost y w (.returned (.tuple #[.int .i64 (2000+(y:Int)),.int .i64 m,.int .i64 dd,.int .i64 0])) W))
 have hjb:=jan_bd (y:=y) (by omega)
 have hst:=jan_step y
 clear hj h1 h2
 go_enter Tryz.func276,Tryz.ntmps276
 go_wp2_with fail
 go_loopw [2] (fun yv wr=>∃j:Nat,j≤y∧yv=.int .i64 (2000+(j:Int))∧w=wr) (fun yv _=>3000-(RowKit.intOf yv).toNat)
 case atStart=>exact⟨j0,HJ.out,by first|rfl|go_num,rfl⟩
 case round =>
  obtain⟨j,hjy,rfl,rfl⟩:=hrel
  clear e1 e2 hj0
  go_wp2_with fail
  rw[show 2000+(j:Int)+1=2000+((j+1:Nat):Int) by omega]
  refine(january_any (j+1) _ (by omega)).mono ?_
  rintro e w1 ⟨rfl,rfl⟩
  by_cases hlt:j<y
  ·have hle:((janN (j+1):Nat):Int)≤(d:Int):=by have:=jan_mono (show j+1≤y by omega);have:=H1.out;omega
   go_wp2
   go_roundw
   case rel=>exact⟨j+1,by omega,by first|rfl|go_num,by first|rfl|trivial⟩
   case measure=>simp[RowKit.intOf];omega
  ·have hjj:j=y:=by omega
   subst hjj
   have hle:¬((janN (j+1):Nat):Int)≤(d:Int):=by have:=H2.out;omega
   have HL:Hid (cumN j 12+31=janN (j+1)-janN j):=cum_12 j
   clear hlt hjy
   go_wp2_with fail
   refine(january_any j _ (by omega)).mono ?_
   rintro e w1 ⟨rfl,rfl⟩
   go_wp2_with fail
   go_loopw [3,6] (fun mv rv wr=>∃k:Nat,1≤k∧k≤12∧mv=.int .i64 (k:Int)∧rv=.int .i64 ((d:Int)-(janN j:Int)-(cumN j k:Int))∧Hid (cumN j k≤d-janN j)∧w=wr) (fun mv _ _=>13-(RowKit.intOf mv).toNat)
   case atStart=>exact⟨1,by omega,by omega,by first|rfl|go_num,by first|rfl|(show Value.int .i64 _=.int .i64 _;congr 1;show _=(d:Int)-(janN j:Int)-((0:Nat):Int);omega)|(show Value.int .i64 _=.int .i64 _;congr 1),Nat.zero_le _,rfl⟩
   case round =>
    obtain⟨k,hk1,hk2,rfl,rfl,hcu,rfl⟩:=hrel
    have hmb:=md_bd j k
    have hcb:=cum_bd j k hk2
    have h1':=H1.out
    have hcu':=hcu.out
    obtain⟨R,hR⟩:∃R:Nat,(d:Int)-(janN j:Int)-(cumN j k:Int)=(R:Int):=⟨d-janN j-cumN j k,by omega⟩
    have HR:=Lib.hid hR
    have HRn:Hid (R=d-janN j-cumN j k):=by unfold Hid;omega
    have hRb:R≤366:=by have:=H2.out;have:=HRn.out;omega
    rw[hR]
    clear hR h1' hcu' hle
    go_wp2_with fail
    refine(monthDays_any j k _ hy hk1 hk2).mono ?_
    rintro e w1 ⟨rfl,rfl⟩
    by_cases hlt:mdN j k≤R
    ·have hk12:k<12:=by
      rcases Nat.lt_or_ge k 12 with h|h
      ·exact h
      ·exfalso
       have hk:k=12:=by omega
       subst hk
       have:=HL.out;have:=H1.out;have:=H2.out;have:=HRn.out
       have h31:mdN j 12=31:=rfl
       omega
     have hle:((mdN j k:Nat):Int)≤(R:Int):=by omega
     have HC:Hid (cumN j (k+1)=cumN j k+mdN j k):=by
      obtain⟨k',rfl⟩:∃k',k=k'+1:=⟨k-1,by omega⟩
      rfl
     have HC2:Hid ((R:Int)-(mdN j k:Int)=(d:Int)-(janN j:Int)-(cumN j (k+1):Int)):=by unfold Hid;rw[HC.out,←HR.out];omega
     have HC3:Hid (cumN j (k+1)≤d-janN j):=by unfold Hid;rw[HC.out];have:=HRn.out;have:=hcu.out;omega
     clear hlt
     go_wp2_with fail
     refine(monthDays_any j k _ hy hk1 hk2).mono ?_
     rintro e w1 ⟨rfl,rfl⟩
     go_wp2
     go_roundw
     case rel=>exact⟨k+1,by omega,by omega,by first|rfl|go_num,by rw[←HC2.out],HC3,by first|rfl|trivial⟩
     case measure=>simp[RowKit.intOf];omega
    ·have hle:¬((mdN j k:Nat):Int)≤(R:Int):=by omega
     clear hlt
     go_wp2
     exact bodyPost_ret (v:=.tuple #[.int .i64 (2000+(j:Int)),.int .i64 (k:Int),.int .i64 ((R:Int)+1),.int .i64 0]) (by simp[results,Tryz.results276,go_sem]) rfl (HP.out _ _ _ rfl)
theorem numberOf_any (d y:Nat) (w:World) (hd:d≤36524) (hy:y<100) (h1:janN y≤d) (h2:d<janN (y+1)) (h3:d%28=26) (h4:26≤d):Calls Tryz.prog 198 #[.int .i64 (d:Int)] w fun e w'=>e=.returned (.int .i64 ((100*y+((d-fstN y)/28+1):Nat):Int))∧w=w':=by
 have da:=fun w=>date_any d y w hd hy h1 h2
 unfold DatePost at da
 have fo:=fun w=>firstOf_any y w hy
 have hf:=fst_le h1 h3 h4
 obtain⟨F,hF⟩:∃F,fstN y=F:=⟨_,rfl⟩
 rw[hF] at fo hf ⊢
 have e1:(2000+(y:Int))%100=(y:Int):=by omega
 have e2:(2000+(y:Int)).tmod 100=(y:Int):=by rw[Int.tmod_eq_emod_of_nonneg (by omega)];omega
 have HV:Hid (((100*y+((d-F)/28+1):Nat):Int)=(y:Int)*100+((d:Int)-(F:Int))/28+1):=by unfold Hid;omega
 clear h1 h2 h3 h4 hF
 go_enter Tryz.func198,Tryz.ntmps198
 go_wp2_with fail
 refine(da _).mono ?_
 rintro e w1 ⟨m,dd,rfl,rfl⟩
 go_wp2_with fail
 refine(fo _).mono ?_
 rintro e w1 ⟨rfl,rfl⟩
 go_wp2
 go_ret
 exact⟨ret_int (by rw[HV.out];try omega),rfl⟩
def CdPost (n:Int) (w:World) (e:Ending) (w':World):Prop:=e=.returned (.tuple #[.int .i64 (cdF n),.int .i64 (cdT n),.int .i64 (cdE n)])∧w=w'
theorem CdPost.mk {n f t er:Int} {w w':World} (h:cdE n=er∧cdF n=f∧cdT n=t) (hw:w=w'):CdPost n w (.returned (.tuple #[.int .i64 f,.int .i64 t,.int .i64 er])) w':=by
 obtain⟨rfl,rfl,rfl⟩:=h;exact⟨rfl,hw⟩
theorem cdX_facts {y k:Nat} (h:1≤k):cdX y k%28=26∧26≤cdX y k∧janN y≤cdX y k:=by
 have:=fst_bd y
 unfold cdX
 omega
theorem cdX_bd {y k:Nat} (hy:y<100) (hk:k<100):cdX y k≤40000:=by
 have:=fst_bd y
 have:=jan_bd (y:=y) (by omega)
 unfold cdX
 omega
set_option maxRecDepth 100000 in
set_option maxHeartbeats 4000000 in
theorem cycleDays_post (n:Int) (w:World):Calls Tryz.prog 119 #[.int .i64 n] w (CdPost n w):=by
 have HP:=Lib.hid (fun(f t er:Int) (h:cdE n=er∧cdF n=f∧cdT n=t)=>CdPost.mk (w:=w) (w':=w) h rfl)
 by_cases hlo:n<0
 ·have HO:=Lib.hid (cd_out (.inl hlo))
  go_enter Tryz.func119,Tryz.ntmps119
  go_wp2
  go_ret3
  exact HP.out _ _ _ HO.out
 by_cases hhi:9999<n
 ·have HO:=Lib.hid (cd_out (.inr hhi))
  go_enter Tryz.func119,Tryz.ntmps119
  go_wp2
  go_ret3
  exact HP.out _ _ _ HO.out
 obtain⟨y,k,hy,hk,rfl⟩:∃y k:Nat,y<100∧k<100∧n=((100*y+k:Nat):Int):=⟨n.toNat/100,n.toNat%100,by omega,by omega,by omega⟩
 have HN:=Lib.hid (@cd_not y k hk hy)
 have HS:=Lib.hid (@cd_of y k hk hy)
 have e1:((100*y+k:Nat):Int)/100=(y:Int):=by omega
 have e2:((100*y+k:Nat):Int).tdiv 100=(y:Int):=by rw[Int.tdiv_eq_ediv_of_nonneg (by omega)];omega
 have e3:((100*y+k:Nat):Int)%100=(k:Int):=by omega
 have e4:((100*y+k:Nat):Int).tmod 100=(k:Int):=by rw[Int.tmod_eq_emod_of_nonneg (by omega)];omega
 obtain⟨nn,hnn⟩:∃x,((100*y+k:Nat):Int)=x:=⟨_,rfl⟩
 have HNN:=Lib.hid hnn
 rw[hnn] at hlo hhi HP HN HS e1 e2 e3 e4
 rw[hnn]
 have fo:=fun w=>firstOf_any y w hy
 have hfb:=fst_bd y
 have hjb:=jan_bd (y:=y) (by omega)
 have hXb:=cdX_bd hy hk
 clear hnn
 rcases Nat.eq_zero_or_pos k with h0|h0
 ·subst h0
  have HO:=Lib.hid (HN.out (.inl rfl))
  obtain⟨F,hF⟩:∃F,fstN y=F:=⟨_,rfl⟩
  rw[hF] at fo hfb
  clear hF hXb
  go_enter Tryz.func119,Tryz.ntmps119
  go_wp2_with fail
  refine(fo _).mono ?_
  rintro e w1 ⟨rfl,rfl⟩
  go_wp2
  go_ret3
  exact HP.out _ _ _ HO.out
 ·have hXf:=@cdX_facts y k h0
  have HXE:Hid ((cdX y k:Int)=(fstN y:Int)+((k:Int)-1)*28):=by unfold Hid cdX;omega
  have k0:((k:Int) == 0)=false:=beq_eq_false_iff_ne.2 (by omega)
  obtain⟨F,hF⟩:∃F,fstN y=F:=⟨_,rfl⟩
  obtain⟨X,hX⟩:∃X,cdX y k=X:=⟨_,rfl⟩
  rw[hX] at HN HS hXb hXf HXE
  rw[hF] at fo hfb HXE
  have HX:=Lib.hid hX
  have HF:=Lib.hid hF
  clear hX hF
  by_cases h1:X≤36524
  ·obtain⟨z,hz,hz1,hz2⟩:=year_of X h1
   have hno:=fun w=>numberOf_any X z w h1 hz hz1 hz2 hXf.1 hXf.2.1
   have hfz:=fst_le hz1 hXf.1 hXf.2.1
   have hfz2:=fst_bd z
   have hzs:=jan_step z
   have hn2:(X-fstN z)/28+1<100∧1≤(X-fstN z)/28+1:=by omega
   have HZ:Hid (z=y→((100*z+((X-fstN z)/28+1):Nat):Int)=nn):=by
    intro e;subst e;rw[HF.out,←HNN.out]
    have h2:=HX.out;unfold cdX at h2;rw[HF.out] at h2;omega
   by_cases hzy:z=y
   ·have HO:=Lib.hid (HS.out h0 (by rw[←hzy];exact hz2))
    have hq:=HZ.out hzy
    rw[hq] at hno
    have HT:Hid ((F:Int)+((k:Int)-1)*28+28=(X:Int)+28):=by unfold Hid;rw[HXE.out]
    have HXX:Hid ((F:Int)+((k:Int)-1)*28=(X:Int)):=HXE.out.symm
    have b1:¬(F:Int)+((k:Int)-1)*28<26:=by rw[HXX.out];omega
    have b2:¬(36524:Int)<(F:Int)+((k:Int)-1)*28:=by rw[HXX.out];omega
    clear hq hzy hfz hfz2 hzs hn2 hz hz1 hz2
    go_enter Tryz.func119,Tryz.ntmps119
    go_wp2_with fail
    refine(fo _).mono ?_
    rintro e w1 ⟨rfl,rfl⟩
    go_wp2_with fail
    try rw[HXX.out]
    refine(hno _).mono ?_
    rintro e w1 ⟨rfl,rfl⟩
    go_wp2
    go_ret3
    try rw[HXX.out]
    exact HP.out _ _ _ HO.out
   ·have hge:janN (y+1)≤X:=by
     rcases Nat.lt_or_ge X (janN (y+1)) with h|h
     ·exact absurd (year_uniq hz1 hz2 hXf.2.2 h) hzy
     ·exact h
    have HO:=Lib.hid (HN.out (.inr hge))
    obtain⟨N,hN⟩:∃N:Nat,100*z+((X-fstN z)/28+1)=N:=⟨_,rfl⟩
    rw[hN] at hno
    have hne:((N:Int) != nn)=true:=bne_iff_ne.2 (by rw[←HNN.out];omega)
    have HXX:Hid ((F:Int)+((k:Int)-1)*28=(X:Int)):=HXE.out.symm
    have b1:¬(F:Int)+((k:Int)-1)*28<26:=by rw[HXX.out];omega
    have b2:¬(36524:Int)<(F:Int)+((k:Int)-1)*28:=by rw[HXX.out];omega
    clear hzy hfz hfz2 hzs hn2 hz hz1 hz2 hge hN
    go_enter Tryz.func119,Tryz.ntmps119
    go_wp2_with fail
    refine(fo _).mono ?_
    rintro e w1 ⟨rfl,rfl⟩
    go_wp2_with fail
    try rw[HXX.out]
    refine(hno _).mono ?_
    rintro e w1 ⟨rfl,rfl⟩
    go_wp2
    go_ret3
    exact HP.out _ _ _ HO.out
  ·have HO:=Lib.hid (HN.out (.inr (by have:=jan_bd (y:=y+1) (by omega);omega)))
   have HXX:Hid ((F:Int)+((k:Int)-1)*28=(X:Int)):=HXE.out.symm
   have b1:¬(F:Int)+((k:Int)-1)*28<26:=by rw[HXX.out];omega
   have b2:(36524:Int)<(F:Int)+((k:Int)-1)*28:=by rw[HXX.out];omega
   clear h1
   go_enter Tryz.func119,Tryz.ntmps119
   go_wp2_with fail
   refine(fo _).mono ?_
   rintro e w1 ⟨rfl,rfl⟩
   go_wp2
   go_ret3
   exact HP.out _ _ _ HO.out
theorem cycleDays_any (n:Int) (w:World):Calls Tryz.prog 119 #[.int .i64 n] w fun e w'=>e=.returned (.tuple #[.int .i64 (cdF n),.int .i64 (cdT n),.int .i64 (cdE n)])∧w=w':=cycleDays_post n w
set_option maxRecDepth 100000 in
set_option maxHeartbeats 1000000 in
theorem cnumber_any (s:ByteArray) (w:World) (hs:s.size≤9):Calls Tryz.prog 312 #[.string s] w (DigPost s w):=by
 have HNO:Hid ((bl s).all digC=false→DigPost s w (.returned (.tuple #[.int .i64 0,.bool false])) w):=by
  intro h;unfold DigPost;rw[h];exact⟨rfl,rfl⟩
 have HYES:Hid ((bl s).all digC=true→∀n:Nat,numV (bl s)=n→DigPost s w (.returned (.tuple #[.int .i64 (n:Int),.bool true])) w):=by
  intro h n hn;unfold DigPost;rw[h,hn];exact⟨rfl,rfl⟩
 go_enter Tryz.func312,Tryz.ntmps312
 go_wp2
 go_loop [4,8] (fun nv iv=>∃k n:Nat,k≤s.size∧iv=.int .i64 k∧nv=.int .i64 n∧Hid (numV ((bl s).take k)=n∧((bl s).take k).all digC=true)) (fun _ iv=>s.size-(intOf iv).toNat)
 case atStart=>exact⟨0,0,Nat.zero_le _,rfl,rfl,rfl,rfl⟩
 case round =>
  obtain⟨k,n,hk,rfl,rfl,hn⟩:=hrel
  by_cases hlt:k<s.size
  ·have hb:(n:Int)≤100000000:=by
    have h1:=numV_lt _ hn.out.2
    rw[hn.out.1,List.length_take,bl_len,Nat.min_eq_left hk] at h1
    have h2:10^k≤10^8:=Nat.pow_le_pow_right (by decide) (by omega)
    omega
   have hb0:(0:Int)≤(n:Int):=by omega
   have HST:Hid (numV ((bl s).take (k+1))=10*n+(s[k].toNat-48)):=by
    unfold Hid;rw[take_snoc' s k hlt,numV_snoc,hn.out.1]
   have hki:(k:Int)<(s.size:Int):=by omega
   rcases Int.lt_or_le (s[k].toNat:Int) 48 with h1|h1
   ·have HF:=Lib.hid (all_no hlt (digC_not (.inl h1)))
    go_wp2
    go_ret2
    exact HNO.out HF.out
   ·rcases Int.lt_or_le 57 (s[k].toNat:Int) with h2|h2
    ·have HF:=Lib.hid (all_no hlt (digC_not (.inr h2)))
     go_wp2
     go_ret2
     exact HNO.out HF.out
    ·have HT:=Lib.hid (all_take_snoc hlt hn.out.2 (digC_of h1 h2))
     have HC:Hid (10*(n:Int)+((s[k].toNat:Int)-48)=((10*n+(s[k].toNat-48):Nat):Int)):=by
      unfold Hid;omega
     go_wp2
     go_round
     case rel=>exact⟨k+1,_,hlt,by go_num,congrArg (Value.int .i64) HC.out,HST.out,HT.out⟩
     case measure=>simp[intOf];omega
  ·have HE:Hid ((bl s).take k=bl s):=List.take_of_length_le (by rw[bl_len];omega)
   go_wp2
   go_ret2
   exact HYES.out (by rw[←HE.out];exact hn.out.2) n (by rw[←HE.out];exact hn.out.1)
end Go.Proofs.YtgmehlgfilpleaaGreatDoor
namespace Go.Proofs.YtgmehlgfilpleaaGreatDoor
open Go.RowKit Go.Lib
set_option linter.unusedVariables false
set_option linter.unusedSimpArgs false
def cyc26:List UInt8:=[50,54,49,50]
theorem cd26:cdE 2612=0∧cdF 2612=9826∧cdT 2612=9854:=by decide +kernel
theorem cycleDays_26 (w:World):Calls Tryz.prog 119 #[.int .i64 2612] w fun e w'=>e=.returned (.tuple #[.int .i64 9826,.int .i64 9854,.int .i64 0])∧w=w':=by
 have h:=cycleDays_any 2612 w
 rw[cd26.1,cd26.2.1,cd26.2.2] at h
 exact h
theorem parseCycle_26 (w:World):Calls Tryz.prog 258 #[.string (sb cyc26)] w fun e w'=>e=.returned (.tuple #[.int .i64 2612,.int .i64 0])∧w=w':=by
 go_enter Tryz.func258,Tryz.ntmps258
 go_wp2_with fail
 refine(cnumber_any (sb cyc26) _ (by decide)).mono ?_
 rintro e w1 ⟨rfl,rfl⟩
 rw[bl_sb,show cyc26.all digC=true by decide,show numV cyc26=2612 by decide]
 have hsz:(sb cyc26).size=4:=rfl
 go_wp2_with fail
 refine(cycleDays_26 _).mono ?_
 rintro e w1 ⟨rfl,rfl⟩
 go_wp2
 go_ret2
 exact⟨rfl,rfl⟩
end Go.Proofs.YtgmehlgfilpleaaGreatDoor
