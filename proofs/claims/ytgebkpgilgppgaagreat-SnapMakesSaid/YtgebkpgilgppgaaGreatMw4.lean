import Derived.Test.YtgebkpgilgppgaaGreatRows
import Derived.Test.YtgebkpgilgppgaaGreatMw1
import Derived.Test.YtgebkpgilgppgaaGreatMw2
import Derived.Test.YtgebkpgilgppgaaGreatMw0
import Derived.WalkKit
import Derived.WalkSpells
import Derived.StillTactics
import Derived.Laws.Pointers
import Derived.Laws.ComplexArith
import Derived.Deep.RegionHeld3
import Derived.Deep.QuietTactic
import Derived.BigQuiet
import Derived.Below
import Derived.Lib.Hide
import Derived.Outline
import Derived.LoopTactic
import Derived.Test.YtgebkpgilgppgaaGreatMw3
set_option linter.unusedSimpArgs false
set_option linter.unusedVariables false
set_option maxRecDepth 100000
set_option maxHeartbeats 64000000
namespace Go.Proofs.YtgebkpgilgppgaaGreat
open Go.RowKit Ga
def Ac(v:Value)(w:World)(e:Ending)(w':World): Prop:=e = .returned v∧AA w w'
abbrev vv(a:Ga.Val): Value:=.agg #[.int .i64 a.1,.int .i64 a.2]
abbrev Bq(w:World)(v:Value)(l:List Ga.Val): Prop:=AX 2 (fun a:Ga.Val=>[.int .i64 a.1,.int .i64 a.2]) w v l
theorem Tryz.mixed:Tryz.prog.follows .mixedOrders=true:=by kernel_rfl
theorem Zz(n:Int)(w:World): Calls Tryz.prog 127 #[.int .i64 n] w fun e w'=>e = .returned (.int .i64 (BV n))∧w=w':=by
 have h1:=KU n;have h2:=KV n;unfold BV;by_cases c1:n.tmod 1048576<0
 ·by_cases c2:n.tmod 1048576+1048576≥524288
  all_goals
   go_enter Tryz.func127,Tryz.ntmps127;go_wp2;go_ret;refine⟨?_,rfl⟩;simp[c1,c2]
 ·by_cases c2:n.tmod 1048576≥524288
  all_goals
   go_enter Tryz.func127,Tryz.ntmps127;go_wp2;go_ret;refine⟨?_,rfl⟩;simp[c1,c2]
theorem Sb(n:Int)(w:World): Calls Tryz.prog 118 #[.int .i64 n] w fun e w'=>e = .returned (.int .i64 (BV n))∧w=w':=by
 have h1:=KU n;have h2:=KV n;have h3:=Z0 n;by_cases c1:n.tmod 1048576 < -524288
 ·rw[if_pos c1] at h3;by_cases c2:n.tmod 1048576+1048576≥524288
  ·omega
  ·rw[if_neg c2] at h3;rw[←h3];go_enter Tryz.func118,Tryz.ntmps118;clear h3;go_wp2;go_ret;exact⟨rfl,rfl⟩
 ·rw[if_neg c1] at h3;by_cases c2:n.tmod 1048576≥524288
  ·rw[if_pos c2] at h3;rw[←h3];go_enter Tryz.func118,Tryz.ntmps118;clear h3;go_wp2;go_ret;exact⟨rfl,rfl⟩
  ·rw[if_neg c2] at h3;rw[←h3];go_enter Tryz.func118,Tryz.ntmps118;clear h3;go_wp2;go_ret;exact⟨rfl,rfl⟩
theorem A3K(x y:Int)(w:World): Calls Tryz.prog 101 #[.int .i64 x,.int .i64 y] w (Ac (.agg #[.int .i64 (BV x),.int .i64 (BV y)]) w):=by
 go_enter Tryz.func101,Tryz.ntmps101
 go_wp2_with (go_at_call 127;refine(Zz _ _).mono ?_;rintro e w' ⟨rfl,rfl⟩)
 refine bodyPost_ret (v:=.agg #[.int .i64 (BV x),.int .i64 (BV y)]) (by simp[results,Tryz.results101,go_sem]) rfl ⟨rfl,?_⟩;exact(AA.refl _).alloc _
theorem YD(x y:Int)(w:World): Calls Tryz.prog 86 #[.int .i64 x,.int .i64 y] w (Ac (.agg #[.int .i64 (BV x),.int .i64 (BV y)]) w):=by
 go_enter Tryz.func86,Tryz.ntmps86
 go_wp2_with (go_at_call 118;refine(Sb _ _).mono ?_;rintro e w' ⟨rfl,rfl⟩)
 refine bodyPost_ret (v:=.agg #[.int .i64 (BV x),.int .i64 (BV y)]) (by simp[results,Tryz.results86,go_sem]) rfl ⟨rfl,?_⟩;exact(AA.refl _).alloc _
def fl(z:Int): Nat:=floatOfInt .f64 z
theorem YE(a:Val)(w:World): Calls Tryz.prog 68 #[vv a] w (Ac (.bool (Ao a)) w):=by
 obtain⟨x,y⟩:=a
 have H:Ao (x,y)=(decide (BV x=x)&&decide (BV y=y)):=by
  unfold Ao;simp only[eq_comm]
 by_cases h1:BV x=x<;>by_cases h2:BV y=y
 all_goals
  rw[H];simp only[h1,h2,decide_true,decide_false,Bool.and_true,Bool.and_false,Bool.and_self];clear H
  try (have h1':¬x=BV x:=fun e=>h1 e.symm)
  try (have h2':¬y=BV y:=fun e=>h2 e.symm)
  go_enter Tryz.func68,Tryz.ntmps68;go_wp2;refine AY 8 Tryz.mixed (by kernel_rfl) (by kernel_rfl) ?_
  iterate 8
   apply Ch.val
   focus
    rintro w1 u ⟨R1,n1,rfl⟩ -;simp[AL,Oper.deps,Region.binds,List.filter_cons,Region.dstOf,AU.at,Act.put,World.more_drew]
    go_wp2_with (first
    | (go_at_call 101;refine(A3K _ _ _).mono ?_;rintro e w1 ⟨rfl,R1,n1,rfl⟩))
    exact⟨by repeat (first|exact AA.refl _|apply AA.more|apply AA.alloc|apply AA.drew),rfl,_,_,rfl,rfl,rfl⟩
  rintro u w1 ⟨R1,n1,rfl⟩ -;simp[AL,Region.dstOf,AU.at,Act.put,List.range_succ,World.more_drew];go_wp2;go_ret;exact⟨rfl,by repeat (first|exact AA.refl _|apply AA.more|apply AA.alloc|apply AA.drew)⟩
def encI(a:Val): List Value:=[.int .i64 a.1,.int .i64 a.2]
theorem Wt:(Tryz.prog.info? 128).map (fun i=>(i.zero,i.size,i.bytes))=some (some (.agg #[.int .i64 0,.int .i64 0]),2,16):=by kernel_rfl
theorem C8(l:Val): (encI l).length=2:=rfl
theorem SS(l:Val): ∀u∈encI l,u.oneCell'=true:=by
 intro u hu;simp[encI] at hu;rcases hu with rfl|rfl<;>rfl
theorem A18(W:World)(a:Val)(t:TypeId)(b:Nat){c:Array Value}(hc:c=#[.int .i64 a.1,.int .i64 a.2])(hb:b=W.heap.size): ∀j u,(encI a)[j]? = some u→(W.alloc (.cells c t)).cell? ⟨b,j,none⟩=some u:=by
 subst hc;intro j u hu;rw[DL W _ t b hb j];simpa [encI] using hu
theorem EB{a b:Bool}(h:a=b): Ending.returned (.bool a)=Ending.returned (.bool b):=by rw[h]
theorem A15{op:Int}(h1:op≠1)(h2:op≠2)(h15:op≠15)(h16:op≠16): Co.lo op=0:=by
 unfold Co.lo;rw[if_neg (by omega),if_neg (by omega)]
theorem A16{op:Int}(h1:op≠1)(h2:op≠2)(h4:op≠4)(h5:op≠5)(h15:op≠15)(h16:op≠16): Co.hi op=0:=by
 unfold Co.hi;rw[if_neg (by omega),if_neg (by omega),if_neg (by omega)]
theorem Zv{op:Int}(h1:op≠1)(h2:op≠2)(h4:op≠4)(h5:op≠5)(h15:op≠15)(h16:op≠16): Co.hasA op=false:=by
 unfold Co.hasA;simp[h1,h2,h4,h5,h15,h16]
theorem Us(op:Int)(w:World): Calls Tryz.prog 196 #[.int .i64 op] w fun e w'=>e = .returned (.tuple #[.int .i64 (Co.lo op),.int .i64 (Co.hi op),.bool (Co.hasA op)])∧w'=w:=by
 by_cases h1:op=1
 ·subst h1;go_enter Tryz.func196,Tryz.ntmps196;go_wp2;exact bodyPost_ret (v:=.tuple #[.int .i64 (-524288),.int .i64 524287,.bool true]) (by simp[results,Tryz.results196,go_sem]) rfl ⟨by simp[Co.lo,Co.hi,Co.hasA],rfl⟩
 by_cases h2:op=2
 ·subst h2;go_enter Tryz.func196,Tryz.ntmps196;go_wp2;exact bodyPost_ret (v:=.tuple #[.int .i64 (-524288),.int .i64 524287,.bool true]) (by simp[results,Tryz.results196,go_sem]) rfl ⟨by simp[Co.lo,Co.hi,Co.hasA],rfl⟩
 by_cases h4:op=4
 ·subst h4;go_enter Tryz.func196,Tryz.ntmps196;go_wp2;exact bodyPost_ret (v:=.tuple #[.int .i64 0,.int .i64 1,.bool true]) (by simp[results,Tryz.results196,go_sem]) rfl ⟨by simp[Co.lo,Co.hi,Co.hasA],rfl⟩
 by_cases h5:op=5
 ·subst h5;go_enter Tryz.func196,Tryz.ntmps196;go_wp2;exact bodyPost_ret (v:=.tuple #[.int .i64 0,.int .i64 1,.bool true]) (by simp[results,Tryz.results196,go_sem]) rfl ⟨by simp[Co.lo,Co.hi,Co.hasA],rfl⟩
 by_cases h15:op=15
 ·subst h15;go_enter Tryz.func196,Tryz.ntmps196;go_wp2;exact bodyPost_ret (v:=.tuple #[.int .i64 1,.int .i64 24,.bool true]) (by simp[results,Tryz.results196,go_sem]) rfl ⟨by simp[Co.lo,Co.hi,Co.hasA],rfl⟩
 by_cases h16:op=16
 ·subst h16;go_enter Tryz.func196,Tryz.ntmps196;go_wp2;exact bodyPost_ret (v:=.tuple #[.int .i64 1,.int .i64 24,.bool true]) (by simp[results,Tryz.results196,go_sem]) rfl ⟨by simp[Co.lo,Co.hi,Co.hasA],rfl⟩
 have e1:(op==1)=false:=by simpa using h1
 have e2:(op==2)=false:=by simpa using h2
 have e4:(op==4)=false:=by simpa using h4
 have e5:(op==5)=false:=by simpa using h5
 have e15:(op==15)=false:=by simpa using h15
 have e16:(op==16)=false:=by simpa using h16
 rw[A15 h1 h2 h15 h16,A16 h1 h2 h4 h5 h15 h16,Zv h1 h2 h4 h5 h15 h16];clear h1 h2 h4 h5 h15 h16;go_enter Tryz.func196,Tryz.ntmps196;go_wp2;exact bodyPost_ret (v:=.tuple #[.int .i64 0,.int .i64 0,.bool false]) (by simp[results,Tryz.results196,go_sem]) rfl ⟨rfl,rfl⟩
theorem Oh(x y:Int)(w:World): Calls Tryz.prog 190 #[.agg #[.int .i64 x,.int .i64 y]] w (Ac (.bool (Co.rightI (x,y))) w):=by
 have H:Co.rightI (x,y)=(decide (0≤x)&&decide (x<18)&&decide (Co.lo x≤y)&&decide (y≤Co.hi x)):=rfl;rw[H];clear H;go_enter Tryz.func190,Tryz.ntmps190
 go_wp2_with (go_at_call 196;refine(Us _ _).mono ?_;rintro e w1 ⟨rfl,rfl⟩)
 all_goals
  go_ret;refine⟨EB (by grind),?_⟩;exact gw
theorem Qf(x y:Int)(w:World): Calls Tryz.prog 91 #[.agg #[.int .i64 x,.int .i64 y]] w (Ac (.bool (Co.rightI (x,y))) w):=by
 go_enter Tryz.func91,Tryz.ntmps91;go_wp2
 all_goals
  go_ret;refine⟨EB ?_,?_⟩
  ·unfold Co.rightI Co.lo Co.hi;grind
  exact gw
theorem X8(x y:Int)(w:World): Calls Tryz.prog 189 #[.agg #[.int .i64 x,.int .i64 y]] w (Ac (.bool (!Co.rightI (x,y))) w):=by
 go_enter Tryz.func189,Tryz.ntmps189
 go_wp2_with (first
  | (go_at_call 190;refine(Oh _ _ _).mono ?_;rintro e w1 ⟨rfl,R3,n3,rfl⟩)
  )
 go_ret;refine⟨rfl,?_⟩;exact gw
theorem JX{α:Type}{p:α→Bool}{l:List α}{k:Nat}(h:k<l.length)(h1:(l.take k).all p=true)(h2:p l[k]=true): (l.take (k+1)).all p=true:=by
 rw[List.take_succ_eq_append_getElem h,List.all_append,h1];simp[h2]
theorem KN{α:Type}{p:α→Bool}{l:List α}{k:Nat}(h:k<l.length)(h2:p l[k]=false): l.all p=false:=by
 rw[List.all_eq_false];exact⟨l[k],List.getElem_mem h,by simp[h2]⟩
theorem M5(v:Value)(l:List Val)(w:World)(hv:Bq w v l):
  Calls Tryz.prog 197 #[v,.func (.func 189) #[] #[]] w fun e w'=>∃k:Int,e = .returned (.int .i64 k)∧decide (0≤k) = !l.all Co.rightI∧AA w w':=by
 obtain⟨a,cap,rfl,hm,hl⟩:=hv.open2;go_enter Tryz.func197,Tryz.ntmps197;go_wp2
 go_loopw [8] (fun i wr=>∃(k:Nat),k≤l.length∧i = .int .i64 k∧(l.take k).all Co.rightI=true∧AA w wr) (fun i _=>l.length-(intOf i).toNat)
 case atStart=>exact⟨0,Nat.zero_le _,rfl,rfl,AA.refl _⟩
 case round =>
  obtain⟨k,hk,rfl,hall,R,n,rfl⟩:=hrel;have HA:=hY hall;clear hall;by_cases hlt:k<l.length
  ·obtain⟨b,off,rfl,hb,hx,hy⟩:=hl k hlt;have hs:=JX (p:=Co.rightI) hlt HA.o;have hf:=KN (p:=Co.rightI) hlt;generalize l[k]=xy at *;obtain⟨x,y⟩:=xy;cases hr:Co.rightI (x,y)
   all_goals
    have HS:=hY hs;have HF:=hY hf;have HR:=hY hr;clear hs hl hf hr;simp only at hx hy
    go_wp2_with (go_at_call 189;refine(X8 _ _ _).mono ?_;rintro e w1 ⟨rfl,R3,n3,rfl⟩;rw[HR.o])
   ·go_ret;refine⟨k,rfl,?_,?_⟩
    ·rw[HF.o HR.o];simp
    ·exact gw
   ·go_roundw
    case rel=>exact⟨k+1,by omega,by go_num,HS.o HR.o,gw⟩
    case measure=>first|(simp[intOf];done)|(simp[intOf];omega)
  ·obtain rfl:k=l.length:=by omega
   have hz:=HA.o;rw[List.take_length] at hz;have HZ:=hY hz;clear hz hl HA;go_wp2;go_ret;refine⟨-1,rfl,?_,?_⟩
   ·rw[HZ.o];rfl
   ·exact gw
theorem KO(v:Value)(l:List Val)(w:World)(hv:Bq w v l):
  Calls Tryz.prog 191 #[v,.func (.func 189) #[] #[]] w (Ac (.bool (!l.all Co.rightI)) w):=by
 have HV:=hY hv;clear hv;go_enter Tryz.func191,Tryz.ntmps191
 go_wp2_with (go_at_call 197;refine(M5 _ l _ HV.o).mono ?_;rintro e w1 ⟨k,rfl,hk,R3,n3,rfl⟩;(have HK:=hY hk);clear hk)
 go_ret;refine⟨EB HK.o,?_⟩;exact gw
theorem Dj(v:Value)(l:List Val)(w:World)(hv:Bq w v l): Calls Tryz.prog 173 #[v] w (Ac (.bool (Co.fitsI l)) w):=by
 obtain⟨a,cap,rfl,hm,-⟩:=hv.open2;have HV:=hY hv;clear hv;have hF:Co.fitsI l=(decide (l.length≤24)&&l.all Co.rightI):=rfl;have HF:=hY hF;clear hF;go_enter Tryz.func173,Tryz.ntmps173
 go_wp2_with (go_at_call 191;refine(KO _ l _ HV.o).mono ?_;rintro e w1 ⟨rfl,R3,n3,rfl⟩)
 all_goals
  go_ret;refine⟨EB (by rw[HF.o];grind),?_⟩;exact gw
theorem IL(v:Value)(l:List Val)(w:World)(hv:Bq w v l): Calls Tryz.prog 54 #[v] w (Ac (.bool (Co.fitsI l)) w):=by
 obtain⟨a,cap,rfl,hm,hl⟩:=hv.open2;have hF:Co.fitsI l=(decide (l.length≤24)&&l.all Co.rightI):=rfl;have HF:=hY hF;clear hF;go_enter Tryz.func54,Tryz.ntmps54;go_wp2
 go_loopw [3] (fun i wr=>∃(k:Nat),k≤l.length∧i = .int .i64 k∧(l.take k).all Co.rightI=true∧AA w wr) (fun i _=>l.length-(intOf i).toNat)
 case atStart=>exact⟨0,Nat.zero_le _,rfl,rfl,AA.refl _⟩
 case round =>
  obtain⟨k,hk,rfl,hall,R,n,rfl⟩:=hrel;have HA:=hY hall;clear hall;by_cases hlt:k<l.length
  ·obtain⟨b,off,rfl,hb,hx,hy⟩:=hl k hlt;have hs:=JX (p:=Co.rightI) hlt HA.o;have hf:=KN (p:=Co.rightI) hlt;generalize l[k]=xy at *;obtain⟨x,y⟩:=xy;cases hr:Co.rightI (x,y)
   all_goals
    have HS:=hY hs;have HF2:=hY hf;have HR:=hY hr;clear hs hl hf hr;simp only at hx hy
    go_wp2_with (go_at_call 91;refine(Qf _ _ _).mono ?_;rintro e w1 ⟨rfl,R3,n3,rfl⟩;rw[HR.o])
   ·go_ret;refine⟨EB ?_,?_⟩
    ·rw[HF.o,HF2.o HR.o];simp
    ·exact gw
   ·go_roundw
    case rel=>exact⟨k+1,by omega,by go_num,HS.o HR.o,gw⟩
    case measure=>first|(simp[intOf];done)|(simp[intOf];omega)
  ·obtain rfl:k=l.length:=by omega
   have hz:=HA.o;rw[List.take_length] at hz;have HZ:=hY hz;clear hz hl HA;go_wp2;go_ret;refine⟨EB ?_,?_⟩
   ·rw[HF.o,HZ.o];simp;omega
   ·exact gw
theorem MB(x y p q:Int)(b:Bool)(hb:b = !(decide (x=p)&&decide (y=q)))(w:World): (binOp .neq 128 (.agg #[.int .i64 x,.int .i64 y]) (.agg #[.int .i64 p,.int .i64 q])).run Tryz.prog w = .ok (.bool b) w:=by
 subst hb;by_cases h1:x=p<;>by_cases h2:y=q<;>simp[go_sem,h1,h2,Tryz.underlying128,Tryz.underlying3]
theorem EC{α:Type}{l m:List α}{k:Nat}(h:k<l.length)(hm:k<m.length)(h1:l.take k=m.take k)(h2:l[k]=m[k]): l.take (k+1)=m.take (k+1):=by
 rw[List.take_succ_eq_append_getElem h,List.take_succ_eq_append_getElem hm,h1,h2]
theorem M6{α:Type}{l m:List α}{k:Nat}(h:k<l.length)(hm:k<m.length)(h2:l[k]≠m[k]): l≠m:=by
 rintro rfl;exact h2 rfl
theorem SK(v u:Value)(l m:List Val)(w:World)(hv:Bq w v l)(hu:Bq w u m): Calls Tryz.prog 89 #[v,u] w (Ac (.bool (decide (l=m))) w):=by
 obtain⟨a,cap,rfl,hm,hl⟩:=hv.open2;obtain⟨a2,cap2,rfl,hm2,hl2⟩:=hu.open2;clear hv hu;by_cases hlen:l.length=m.length
 ·have hD:decide ((l.length:Int)=(m.length:Int))=true:=by rw[hlen];simp
  have hD2:((l.length:Int) != (m.length:Int))=false:=by rw[hlen];simp
  have HLEN:=hY hlen;clear hlen;go_enter Tryz.func89,Tryz.ntmps89;go_wp2
  go_loopw [5] (fun i wr=>∃(k:Nat),k≤l.length∧i = .int .i64 k∧l.take k=m.take k∧AA w wr) (fun i _=>l.length-(intOf i).toNat)
  case atStart=>exact⟨0,Nat.zero_le _,rfl,rfl,AA.refl _⟩
  case round =>
   obtain⟨k,hk,rfl,hall,R,n,rfl⟩:=hrel;have HA:=hY hall;clear hall;by_cases hlt:k<l.length
   ·have hlt2:k<m.length:=by have:=HLEN.o;omega
    obtain⟨b,off,rfl,hb,hx,hy⟩:=hl k hlt;obtain⟨b2,off2,rfl,hb2,hx2,hy2⟩:=hl2 k hlt2;have hs:=EC hlt hlt2 HA.o;have hf:=M6 hlt hlt2;generalize l[k]=xy at *;generalize m[k]=xy2 at *;obtain⟨x,y⟩:=xy;obtain⟨x2,y2⟩:=xy2;simp only at hx hy hx2 hy2;by_cases hr:((x,y):Val)=(x2,y2)
    all_goals
     have HS:=hY hs;have HF2:=hY hf;have HR:=hY hr;clear hs hl hl2 hf
    ·cases hr;go_wp2;refine AY 9 Tryz.mixed (by kernel_rfl) (by kernel_rfl) ?_
     iterate 9
      apply Ch.val
      focus
       rintro w1 u ⟨R1,n1,rfl⟩ hF;simp[AR,AU.more,Oper.deps,Region.binds,List.filter_cons,World.more_drew] at hF;simp[AL,Oper.deps,Region.binds,List.filter_cons,Region.dstOf,AU.at,Act.put,World.more_drew];go_wp2;exact⟨gw,rfl,_,_,rfl,rfl,rfl⟩
     rintro u w1 ⟨R1,n1,rfl⟩ hF;clear hF;simp[AL,Region.dstOf,AU.at,Act.put,List.range_succ,World.more_drew];go_wp2
     go_roundw
     case rel=>exact⟨k+1,by omega,by go_num,HS.o (by first|exact rfl|trivial),gw⟩
     case measure=>first|(simp[intOf];done)|(simp[intOf];omega)
    ·have hq:=MB x y x2 y2 true (by
      have:=HR.o;by_cases e1:x=x2<;>by_cases e2:y=y2<;>simp[e1,e2]
      exact this (by rw[e1,e2]))
     go_wp2;refine AY 9 Tryz.mixed (by kernel_rfl) (by kernel_rfl) ?_
     iterate 9
      apply Ch.val
      focus
       rintro w1 u ⟨R1,n1,rfl⟩ hF;simp[AR,AU.more,Oper.deps,Region.binds,List.filter_cons,World.more_drew] at hF;simp[AL,Oper.deps,Region.binds,List.filter_cons,Region.dstOf,AU.at,Act.put,World.more_drew];go_wp2;exact⟨gw,rfl,_,_,rfl,rfl,rfl⟩
     rintro u w1 ⟨R1,n1,rfl⟩ hF;clear hF;simp[AL,Region.dstOf,AU.at,Act.put,List.range_succ,World.more_drew];go_wp2;go_ret;refine⟨EB (by rw[decide_eq_false (HF2.o HR.o)]),?_⟩;exact gw
   ·obtain rfl:k=l.length:=by omega
    have hz:=HA.o;rw[List.take_length,List.take_of_length_le (by have:=HLEN.o;omega)] at hz;have HZ:=hY hz;clear hz hl hl2 HA;go_wp2;go_ret;refine⟨EB ?_,?_⟩
    ·rw[HZ.o];simp
    ·exact gw
 ·have hD2:((l.length:Int) != (m.length:Int))=true:=by rw[bne_iff_ne];omega
  have hne:l≠m:=fun e=>hlen (by rw[e])
  have HNE:=hY hne;clear hne hlen hl hl2;go_enter Tryz.func89,Tryz.ntmps89;go_wp2;go_ret;refine⟨EB (by rw[decide_eq_false HNE.o]),?_⟩;exact gw
end Go.Proofs.YtgebkpgilgppgaaGreat
