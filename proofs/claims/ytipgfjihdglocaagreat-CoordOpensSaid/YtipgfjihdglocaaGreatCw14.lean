import Derived.Test.YtipgfjihdglocaaGreatCw10
import Derived.Test.YtipgfjihdglocaaGreatCw0
import Derived.Test.YtipgfjihdglocaaGreatCw11
import Derived.Lib.ConvBytes
import Derived.Laws.BitsAllLaws
import Derived.Test.YtipgfjihdglocaaGreatCw4
import Derived.Test.YtipgfjihdglocaaGreatCw3
import Derived.Test.YtipgfjihdglocaaGreatCw5
set_option linter.unusedSimpArgs false
set_option linter.unusedVariables false
set_option maxRecDepth 100000
set_option maxHeartbeats 64000000
namespace Go.Proofs.YtipgfjihdglocaaGreat
open Go.RowKit
def ReaderAt(base B:Nat)(W:World)(s:List UInt8): Prop :=
 base≤B∧W.heap[B]? = some (.cells #[.string ⟨s.toArray⟩] 214)
theorem ReaderAt.grew{base B:Nat}{W W':World}{s:List UInt8}(h:ReaderAt base B W s)(g:Grew W W'): ReaderAt base B W' s :=
 ⟨h.1,by rw[g.below.block B (Array.getElem?_eq_some_iff.1 h.2).1];exact h.2⟩
theorem octNew_any(s:List UInt8)(w:World): Calls Tryz.prog 97 #[.string ⟨s.toArray⟩] w fun e w'=>e = .returned (.pointer (some ⟨w.heap.size,0,none⟩))∧w'=w.alloc (.cells #[.string ⟨s.toArray⟩] 214):=by
 go_enter Tryz.func97,Tryz.ntmps97;go_wp2;go_ret;exact⟨rfl,rfl⟩
theorem octLeft_any(base B:Nat)(s:List UInt8)(w:World)(h:ReaderAt base B w s): Calls Tryz.prog 151 #[.pointer (some ⟨B,0,none⟩)] w fun e w'=>e = .returned (.int .i64 s.length)∧w=w':=by
 have hc:=cell_of_heap (o:=0) h.2;simp at hc;clear h;go_enter Tryz.func151,Tryz.ntmps151;go_wp2;go_ret;exact⟨rfl,rfl⟩
theorem or_byte(u:Int)(x:UInt8)(h0:0≤u)(h1:u<16777216): bits .or .u32 (u*256) (x.toNat:Int)=u*256+x.toNat:=by
 have hx:=x.toNat_lt;obtain⟨n,rfl⟩:∃n:Nat,u=n:=⟨u.toNat,by omega⟩;have e:(n:Int)*256=((n*256:Nat):Int):=by omega
 rw[e,u32_or_nat _ _ (by omega) (by omega)];have:=Nat.shiftLeft_add_eq_or_of_lt (show x.toNat<2^8 by omega) n;rw[Nat.shiftLeft_eq] at this;have h2:n*256 ||| x.toNat=n*256+x.toNat:=this.symm
 rw[h2];omega
theorem wrap_num(s:List UInt8): wrap32 (Oc.raw s)=Oc.num s:=by
 have:=Oc.raw_range s;unfold Oc.num;simp only[wrap32];split<;>omega
def peekV(s:List UInt8): Int:=if s.length<4 then 0 else Oc.num s
def peekE(s:List UInt8): Int:=if s.length<4 then 3 else 0
theorem octPeek_any(base B:Nat)(s:List UInt8)(w:World)(h:ReaderAt base B w s)(hs:s.length≤1000000): Calls Tryz.prog 190 #[.pointer (some ⟨B,0,none⟩)] w (Gives (.tuple #[.int .i64 (peekV s),.int .i64 (peekE s)]) w):=by
 have hc:=cell_of_heap (o:=0) h.2;simp at hc;have hB:=Pre.ofCell hc;clear h;by_cases h4:s.length<4
 ·have e1:peekV s=0:=by unfold peekV;rw[if_pos h4]
  have e2:peekE s=3:=by unfold peekE;rw[if_pos h4]
  rw[e1,e2];clear e1 e2;go_enter Tryz.func190,Tryz.ntmps190;go_wp2;exact bodyPost_ret (v:=.tuple #[.int .i64 0,.int .i64 3]) (by simp[results,Tryz.results190,go_sem]) rfl ⟨rfl,gw⟩
 ·have e1:peekV s=Oc.num s:=by unfold peekV;rw[if_neg h4]
  have e2:peekE s=0:=by unfold peekE;rw[if_neg h4]
  rw[e1,e2];clear e1 e2;have hsz:((⟨s.toArray⟩:ByteArray).extract 0 4).size=4:=by rw[Lib.size_eq,Lib.extract_data];simp;omega
  have hat:∀j x,j<4→s[j]? = some x→((⟨s.toArray⟩:ByteArray).extract 0 4).data.toList.getD j 0=x:=by
   intro j x hj hx;rw[Lib.extract_data,List.drop_zero,List.getD_eq_getElem?_getD,List.getElem?_take_of_lt hj];show(s[j]?).getD 0=x;rw[hx];rfl
  have hcv:=Lib.run_convert_string_bytes (P:=Tryz.prog) w 9 145 5 ((⟨s.toArray⟩:ByteArray).extract 0 4) Tryz.underlying9 Tryz.underlying145 Tryz.underlying5;rw[hsz] at hcv;generalize grownCap w 4 0 5=cap at hcv
  have hcell:∀j x,j<4→s[j]? = some x→(Lib.bytesWorld w 5 ((⟨s.toArray⟩:ByteArray).extract 0 4)).cell? ⟨w.heap.size,j,none⟩=some (.int .u8 x.toNat):=by
   intro j x hj hx;rw[Lib.bytesWorld_cell w _ _ j (by omega),hat j x hj hx]
  have hgb:=grew_bytes w 5 ((⟨s.toArray⟩:ByteArray).extract 0 4);generalize Lib.bytesWorld w 5 ((⟨s.toArray⟩:ByteArray).extract 0 4)=W2 at hcv hcell hgb;have HC:=hY hcell;have HGB:=hY hgb;clear hsz hat hcell hgb;go_enter Tryz.func190,Tryz.ntmps190;go_wp2
  go_loop [4,24] (fun u i=>∃(k:Nat),k≤4∧i = .int .i64 k∧u = .int .u32 (Oc.part s k)) (fun _ i=>4-(intOf i).toNat)
  case atStart=>exact⟨0,by omega,rfl,rfl⟩
  case round =>
   obtain⟨k,hk,rfl,rfl⟩:=hrel;by_cases hlt:k<4
   ·obtain⟨x,hx⟩:∃x,s[k]? = some x:=⟨s[k]'(by omega),List.getElem?_eq_getElem _⟩;have hcx:=HC.o k x hlt hx;have hps:=Oc.part_succ s k x hx;have hpr:=Oc.part_range s k hk
    have hpp:Oc.part s k<16777216:=by
     have h3:(256:Int)^k≤16777216:=by
      rcases (show k=0∨k=1∨k=2∨k=3 by omega) with rfl|rfl|rfl|rfl<;>decide
     omega
    obtain⟨hp0,-⟩:=hpr;have hx8:=x.toNat_lt;generalize Oc.part s k=u at *;have HPS:=hY hps;clear hps hx hcv;go_wp2
    go_round
    case rel=>exact⟨k+1,by omega,by go_num,by rw[or_byte u x hp0 hpp,HPS.o]⟩
    case measure=>first|(simp[intOf];done)|(simp[intOf];omega)
   ·obtain rfl:k=4:=by omega
    have hpr:=Oc.part_raw s (by omega);have hrr:=Oc.raw_range s;have hw:=wrap_num s;rw[hpr];have hnr:=Oc.num_range s;generalize Oc.raw s=u at *;generalize Oc.num s=z at *;clear hpr hcv;obtain⟨hr0,hr1⟩:=hrr;obtain⟨hz0,hz1⟩:=hnr;go_wp2;exact bodyPost_ret (v:=.tuple #[.int .i64 z,.int .i64 0]) (by simp[results,Tryz.results190,go_sem]) rfl ⟨rfl,HGB.o⟩
def within(s:List UInt8)(a b:Int): Int×Int×List UInt8:=if s.length<4 then (0,3,s) else if Oc.num s<a∨b<Oc.num s then (0,2,s) else (Oc.num s,0,s.drop 4)
theorem drop4(s:List UInt8)(n:Nat)(hn:s.length=n): (⟨s.toArray⟩:ByteArray).extract 4 n=⟨(s.drop 4).toArray⟩:=by
 have h:((⟨s.toArray⟩:ByteArray).extract 4 n).data.toList=s.drop 4:=by
  rw[Lib.extract_data];show(s.drop 4).take (n-4)=s.drop 4;exact List.take_of_length_le (by rw[List.length_drop];omega)
 generalize (⟨s.toArray⟩:ByteArray).extract 4 n=t at h;obtain⟨⟨l⟩⟩:=t;simp only at h;rw[h]
theorem own_ne{α:Type}{base B:Nat}{e t:TypeId}{k:Nat}{enc:α→List Value}{w:World}{v:Value}{l:List α}{c:Array Value}{f:Nat×Nat}(ho:OwnAt base e k enc w v l)(h:w.heap[B]? = some (.cells c t f))(ht:t≠e): v.ownBlock≠some B:=by
 intro q;obtain⟨h1,h2⟩:=ho;rcases h2 with ⟨rfl,_⟩|⟨g,cap,cur,rfl,hb,hh,_⟩
 ·cases q
 ·cases q;rw[show(Addr.block ⟨g,0,none⟩)=g from rfl] at h;rw[hh] at h;cases h;exact ht rfl
theorem octWithin_any(w0:World)(B:Nat)(s:List UInt8)(a b:Int)(w:World)(h:ReaderAt w0.heap.size B w s)(hg:Grew w0 w)(hs:s.length≤1000000):
  Calls Tryz.prog 149 #[.pointer (some ⟨B,0,none⟩),.int .i64 a,.int .i64 b] w fun e w'=>e = .returned (.tuple #[.int .i64 (within s a b).1,.int .i64 (within s a b).2.1])∧ReaderAt w0.heap.size B w' (within s a b).2.2∧Grew w0 w'∧Keep B w w':=by
 have hc:=cell_of_heap (o:=0) h.2;have hf:=frozen_of_heap (o:=0) h.2;simp at hc;have hB:=Pre.ofCell hc;have H:=hY h;have HG:=hY hg;have hd:=drop4 s s.length rfl;clear h hg;by_cases h4:s.length<4
 ·have e0:within s a b=(0,3,s):=by unfold within;rw[if_pos h4]
  have e1:peekV s=0:=by unfold peekV;rw[if_pos h4]
  have e2:peekE s=3:=by unfold peekE;rw[if_pos h4]
  have E1:=hY e1;have E2:=hY e2;rw[e0];clear e0 e1 e2;go_enter Tryz.func149,Tryz.ntmps149
  go_wp2_with (go_at_call 190;refine(octPeek_any _ B s _ H.o hs).mono ?_;rintro e w1 ⟨rfl,R3,n3,rfl⟩;rw[E1.o,E2.o])
  exact bodyPost_ret (v:=.tuple #[.int .i64 0,.int .i64 3]) (by simp[results,Tryz.results149,go_sem]) rfl ⟨rfl,H.o.grew gw,HG.o.trans gw,Keep.ofGrew gw⟩
 ·have e1:peekV s=Oc.num s:=by unfold peekV;rw[if_neg h4]
  have e2:peekE s=0:=by unfold peekE;rw[if_neg h4]
  have E1:=hY e1;have E2:=hY e2;clear e1 e2;by_cases hr:Oc.num s<a∨b<Oc.num s
  ·have e0:within s a b=(0,2,s):=by unfold within;rw[if_neg h4,if_pos hr]
   rw[e0];clear e0;generalize Oc.num s=z at *;go_enter Tryz.func149,Tryz.ntmps149;by_cases hra:z<a
   ·go_wp2_with (go_at_call 190;refine(octPeek_any _ B s _ H.o hs).mono ?_;rintro e w1 ⟨rfl,R3,n3,rfl⟩;rw[E1.o,E2.o])
    all_goals
     exact bodyPost_ret (v:=.tuple #[.int .i64 0,.int .i64 2]) (by simp[results,Tryz.results149,go_sem]) rfl ⟨rfl,H.o.grew gw,HG.o.trans gw,Keep.ofGrew gw⟩
   ·have hrb:b<z:=by omega
    clear hr
    go_wp2_with (go_at_call 190;refine(octPeek_any _ B s _ H.o hs).mono ?_;rintro e w1 ⟨rfl,R3,n3,rfl⟩;rw[E1.o,E2.o])
    all_goals
     exact bodyPost_ret (v:=.tuple #[.int .i64 0,.int .i64 2]) (by simp[results,Tryz.results149,go_sem]) rfl ⟨rfl,H.o.grew gw,HG.o.trans gw,Keep.ofGrew gw⟩
  ·have e0:within s a b=(Oc.num s,0,s.drop 4):=by unfold within;rw[if_neg h4,if_neg hr]
   rw[e0];clear e0;generalize Oc.num s=z at *;have hra:¬z<a:=fun h=>hr (.inl h)
   have hrb:¬b<z:=fun h=>hr (.inr h)
   clear hr;have h4':4≤s.length:=by omega
   go_enter Tryz.func149,Tryz.ntmps149
   go_wp2_with (go_at_call 190;refine(octPeek_any _ B s _ H.o hs).mono ?_;rintro e w1 ⟨rfl,R3,n3,rfl⟩;rw[E1.o,E2.o])
   exact bodyPost_ret (v:=.tuple #[.int .i64 z,.int .i64 0]) (by simp[results,Tryz.results149,go_sem]) rfl
    ⟨rfl,ReaderAt.grew (W:=w.setCell ⟨B,0,none⟩ (.string ⟨(s.drop 4).toArray⟩)) ⟨H.o.1,heap_set_self H.o.2⟩ gw,(Grew.setBehind HG.o H.o.1 _).more _ _,(Keep.set _).trans (Keep.ofGrew gw)⟩
theorem octNum_any(w0:World)(B:Nat)(s:List UInt8)(w:World)(h:ReaderAt w0.heap.size B w s)(hg:Grew w0 w)(hs:s.length≤1000000):
  Calls Tryz.prog 219 #[.pointer (some ⟨B,0,none⟩)] w fun e w'=>e = .returned (.tuple #[.int .i64 (within s (-2147483648) 2147483647).1,.int .i64 (within s (-2147483648) 2147483647).2.1])∧ReaderAt w0.heap.size B w' (within s (-2147483648) 2147483647).2.2∧Grew w0 w'∧Keep B w w':=by
 have hW:=octWithin_any w0 B s (-2147483648) 2147483647 w h hg hs;generalize within s (-2147483648) 2147483647=r at *;go_enter Tryz.func219,Tryz.ntmps219
 go_wp2_with (go_at_call 149;refine hW.mono ?_;rintro e w1 ⟨rfl,hr,hg1,hk1⟩;(have HR:=hY hr);(have HG1:=hY hg1);(have HK1:=hY hk1);clear hr hg1 hk1)
 exact bodyPost_ret (v:=.tuple #[.int .i64 r.1,.int .i64 r.2.1]) (by simp[results,Tryz.results219,go_sem]) rfl ⟨rfl,HR.o,HG1.o,HK1.o⟩
theorem octOut_any(base B:Nat)(vb:Value)(bs:List UInt8)(w:World)(h:WriterAt base B w vb bs)(hl:bs.length≤1000000): Calls Tryz.prog 94 #[.pointer (some ⟨B,0,none⟩)] w (Gives (.string ⟨bs.toArray⟩) w):=by
 have hc:=cell_of_heap (o:=0) h.2.1;simp at hc;have H:=hY h;clear h;rcases H.o.2.2.form with ⟨rfl,hb⟩|⟨b,cap,hvb,hb1,hb2,hb3⟩
 ·subst hb
  have hcv:(convert 145 9 (.slice none 0 0)).run Tryz.prog w = .ok (.string ⟨#[]⟩) w:=by
   rw[run_convert_bytes_string w _ _ 5 none 0 0 Tryz.underlying145 Tryz.underlying5 Tryz.underlying9];rfl
  go_enter Tryz.func94,Tryz.ntmps94;go_wp2;go_ret;refine⟨rfl,?_⟩;exact gw
 ·subst hvb;have hr:=H.o.2.2.rows encB_len
  have hcv:(convert 145 9 (.slice (some ⟨b,0,none⟩) bs.length cap)).run Tryz.prog w = .ok (.string ⟨bs.toArray⟩) w :=
   run_convert_bytes_back w _ _ 5 ⟨b,0,none⟩ cap bs Tryz.underlying145 Tryz.underlying5 Tryz.underlying9 (by
    intro j hj;obtain⟨a',cap',hv,_,hx⟩:=hr;obtain⟨b',off',hab,hx⟩:=hx (by intro e;subst e;simp at hj);cases hv;cases hab;rw[addr_add_zero];have:=hx j bs[j] (List.getElem?_eq_getElem hj) 0 (.int .u8 bs[j].toNat) rfl
    simpa using this)
  clear hr;go_enter Tryz.func94,Tryz.ntmps94;go_wp2;go_ret;refine⟨rfl,?_⟩;exact gw
theorem WriterAt.grew{base B:Nat}{W W':World}{vb:Value}{bs:List UInt8}(h:WriterAt base B W vb bs)(g:Grew W W'): WriterAt base B W' vb bs :=
 ⟨h.1,by rw[g.below.block B (Array.getElem?_eq_some_iff.1 h.2.1).1];exact h.2.1,h.2.2.grew g⟩
end Go.Proofs.YtipgfjihdglocaaGreat
namespace Go.Proofs.YtipgfjihdglocaaGreat
open Go.RowKit Ga
def nums(l:List Val): List Int:=l.flatMap fun i=>[i.1,i.2]
def putI(l:List Val): List UInt8:=Oc.be l.length++Oc.bes (nums l)
theorem nums_succ(l:List Val)(k:Nat)(h:k<l.length): nums (l.take (k+1))=nums (l.take k)++[l[k].1,l[k].2]:=by
 unfold nums;rw[List.take_succ_eq_append_getElem h,List.flatMap_append];simp
theorem nums_len:∀(l:List Val),(nums l).length=l.length*2
 | []=>rfl
 | i::l=>by have:=nums_len l;unfold nums at *;simp at *;omega
theorem right_fitsN{x y:Int}(h:Co.rightI (x,y)=true): Oc.fitsN x=true∧Oc.fitsN y=true:=by
 obtain⟨h0,h1,_,_⟩:=Co.right_parts h;have:=Co.right_arg h;simp only at *;unfold Oc.fitsN;simp only[Bool.and_eq_true,decide_eq_true_eq];omega
theorem refPut01_any(n:Int)(h:Oc.fitsN n=true)(w:World): Calls Tryz.prog 166 #[.int .i64 n] w (Gives (str (Oc.be n)) w):=by
 unfold Oc.fitsN at h;simp only[Bool.and_eq_true,decide_eq_true_eq] at h;obtain⟨h0,h1⟩:=h
 have key:∀u:Int,n%4294967296=u→n%256=u%256→(convert 145 9 (.slice (some ⟨w.heap.size,0,none⟩) 4 4)).run Tryz.prog (w.alloc (.cells #[.int .u8 (u / 16777216),.int .u8 (u / 65536%256),.int .u8 (u / 256%256),.int .u8 (u%256)] 5)) = .ok (.string ⟨(Oc.be n).toArray⟩) (w.alloc (.cells #[.int .u8 (u / 16777216),.int .u8 (u / 65536%256),.int .u8 (u / 256%256),.int .u8 (u%256)] 5)):=by
  intro u hu hu2;have hc:=be_new w n 5 w.heap.size #[.int .u8 (u / 16777216),.int .u8 (u / 65536%256),.int .u8 (u / 256%256),.int .u8 (u%256)] rfl (by rw[hu,hu2]);refine run_convert_bytes_back _ _ _ 5 ⟨w.heap.size,0,none⟩ 4 (Oc.be n) Tryz.underlying145 Tryz.underlying5 Tryz.underlying9 ?_;intro j hj;rw[addr_add_zero];refine hc j _ ?_;have:=flat_get encB_len (Oc.be n) j (Oc.be n)[j] (List.getElem?_eq_getElem hj) 0 (.int .u8 (Oc.be n)[j].toNat) rfl;simpa using this
 by_cases hneg:n<0
 ·have hk:=key (n+4294967296) (by omega) (by omega);clear key;go_enter Tryz.func166,Tryz.ntmps166;go_wp2;go_ret;refine⟨rfl,?_⟩;exact gw
 ·have hk:=key n (by omega) rfl;clear key;go_enter Tryz.func166,Tryz.ntmps166;go_wp2;go_ret;refine⟨rfl,?_⟩;exact gw
theorem putI_succ(l:List Val)(k:Nat)(h:k<l.length): Oc.bes (nums (l.take (k+1)))=Oc.bes (nums (l.take k))++Oc.be l[k].1++Oc.be l[k].2:=by
 rw[nums_succ l k h,Oc.bes_append,List.append_assoc];have:Oc.bes [l[k].1,l[k].2]=Oc.be l[k].1++Oc.be l[k].2:=by unfold Oc.bes;simp
 rw[this]
theorem refPut04_any(v:Value)(l:List Val)(w:World)(hv:ValsAt w v l)(hf:Co.fitsI l=true): Calls Tryz.prog 168 #[v] w (Gives (str (putI l)) w):=by
 obtain⟨a,cap,rfl,hm,hl⟩:=hv.open2;obtain⟨l24,hrl⟩:=Co.fits_parts hf;have HR:=hY hrl;clear hv hf hrl;go_enter Tryz.func168,Tryz.ntmps168
 go_wp2_with (go_at_call 166;refine(refPut01_any _ (by simp[Oc.fitsN];omega) _).mono ?_;rintro e w1 ⟨rfl,R3,n3,rfl⟩)
 go_loopw [3,4] (fun t i wr=>∃(k:Nat),k≤l.length∧i = .int .i64 k∧t=str (Oc.be l.length++Oc.bes (nums (l.take k)))∧Grew w wr) (fun _ i _=>l.length-(intOf i).toNat)
 case atStart=>exact⟨0,Nat.zero_le _,rfl,by simp[Oc.bes,nums],gw⟩
 case round =>
  obtain⟨k,hk,rfl,rfl,R,n,rfl⟩:=hrel;by_cases hlt:k<l.length
  ·obtain⟨b,off,rfl,hb,hx,hy⟩:=hl k hlt;have hns:=putI_succ l k hlt;have hri:=HR.o l[k] (List.getElem_mem hlt);have hnl:=nums_len (l.take k);rw[List.length_take_of_le hk] at hnl;have hTl:(Oc.be l.length++Oc.bes (nums (l.take k))).length≤1000:=by rw[List.length_append,Oc.be_len,Oc.bes_len,hnl];omega
   generalize l[k]=xy at *;obtain⟨x,y⟩:=xy;obtain⟨fx,fy⟩:=right_fitsN hri;simp only at hx hy hns;have hns2:Oc.be l.length++Oc.bes (nums (l.take (k+1)))=Oc.be l.length++Oc.bes (nums (l.take k))++Oc.be x++Oc.be y:=by rw[hns];simp only[List.append_assoc]
   have lx:=Oc.be_len x;have ly:=Oc.be_len y;generalize Oc.be l.length++Oc.bes (nums (l.take k))=T at *;have hlx:(Oc.be x).length≤4:=by omega
   have hly:(Oc.be y).length≤4:=by omega
   have HNS:=hY hns2;clear hl hns hns2 hnl hri lx ly
   go_wp2_with fail
   refine wp_region_seq 15 Tryz.mixed (by kernel_rfl) (by kernel_rfl) ?_
   iterate 15
    apply Seq.val
    focus
     rintro w1 u ⟨R1,n1,rfl⟩ hF;simp[moreFacts,Fact.more,Oper.deps,Region.binds,List.filter_cons,World.more_drew] at hF;simp[putFacts,Oper.deps,Region.binds,List.filter_cons,Region.dstOf,Fact.at,Act.put,World.more_drew]
     go_wp2_with (first
      | (go_at_call 166;refine(refPut01_any _ (by assumption) _).mono ?_;rintro e w1 ⟨rfl,R3,n3,rfl⟩)
      )
     exact⟨gw,rfl,_,_,rfl,rfl,rfl⟩
   rintro u w1 ⟨R1,n1,rfl⟩ hF;clear hF;simp[putFacts,Region.dstOf,Fact.at,Act.put,List.range_succ,World.more_drew];go_wp2
   go_roundw
   case rel=>exact⟨k+1,by omega,by go_num,by rw[HNS.o];exact congrArg Value.string (by rw[str_cat,str_cat]),gw⟩
   case measure=>first|(simp[intOf];done)|(simp[intOf];omega)
  ·obtain rfl:k=l.length:=by omega
   rw[List.take_length];clear hl;go_wp2;go_ret;refine⟨rfl,?_⟩;exact gw
def KeptW(base B:Nat)(W W':World): Prop:=W.heap.size≤W'.heap.size∧∀q,q<W.heap.size→q≠B→Safe base q W→W'.heap[q]? = W.heap[q]?
theorem KeptW.refl(base B:Nat)(W:World): KeptW base B W W:=⟨Nat.le_refl _,fun _ _ _ _=>rfl⟩
theorem KeptW.ofGrew{base B:Nat}{W W':World}(g:Grew W W'): KeptW base B W W':=⟨g.below.size,fun q hq _ _=>g.below.block q hq⟩
theorem KeptW.trans{base B:Nat}{a b c:World}(h:KeptW base B a b)(k:KeptW base B b c): KeptW base B a c :=
 ⟨Nat.le_trans h.1 k.1,fun q hq hn hs=>by
  have h1:=h.2 q hq hn hs
  rw[k.2 q (Nat.lt_of_lt_of_le hq h.1) hn (hs.sameBlock h1),h1]⟩
theorem KeptW.step{base B:Nat}{wr W9:World}{o:Obj}{vk v9:Value}{ys:List UInt8}(hw:WriterAt base B wr vk ys)(hk:∀q,q<(wr.alloc o).heap.size→vk.ownBlock≠some q→W9.heap[q]? = (wr.alloc o).heap[q]?): KeptW base B wr (W9.setCell ⟨B,0,none⟩ v9):=by
 have hat:∀q,q<wr.heap.size→q≠B→Safe base q wr→(W9.setCell ⟨B,0,none⟩ v9).heap[q]? = wr.heap[q]? :=fun q hq hn hs=>by
  rw[heap_set_other (fun e=>hn e.symm),hk q (by rw[World.size_alloc];omega) (hs.own hw.2.2)];have:wr.heap[q]? = some wr.heap[q]:=Array.getElem?_eq_getElem hq;rw[this];exact heap_alloc_old this _
 refine⟨?_,hat⟩;rw[World.size_setCell]
 have hne:vk.ownBlock≠some wr.heap.size:=fun e=>by
  have:=(World.ownsRow.lt hw.2.2 _ e).2;omega
 have h1:=hk wr.heap.size (by rw[World.size_alloc];omega) hne;rw[heap_new_at wr o _ rfl] at h1;have:=(Array.getElem?_eq_some_iff.1 h1).1;omega
theorem writerNum_keep(w0 W:World)(B:Nat)(vb:Value)(bs:List UInt8)(v:Value)(l:List Int)(hw:WriterAt w0.heap.size B W vb bs)(hg:Grew w0 W)(hv:RowsAt 1 encN W v l)
  (hs:∀b off,(∃n c,v = .slice (some ⟨b,off,none⟩) n c)→Safe w0.heap.size b W∧b≠B) (hok:l.all Oc.fitsN=true) (hlen:bs.length+l.length*4≤100000) :
  Calls Tryz.prog 91 #[.pointer (some ⟨B,0,none⟩),v] W fun e W'=>e = .returned (.int .i64 0)∧Grew w0 W'∧KeptW w0.heap.size B W W'∧∃vb',WriterAt w0.heap.size B W' vb' (bs++Oc.bes l):=by
 obtain⟨a,cap,rfl,hm,hl⟩:=hv.open1;have HV:=hY hv;have HS:=hY hs;have HW:=hY hw;have HOK:=hY hok;clear hv hs hw hok;go_enter Tryz.func91,Tryz.ntmps91;go_wp2
 go_loop [14] (fun i=>∃(k:Nat),k≤l.length∧i = .int .i64 k) (fun i=>l.length-(intOf i).toNat)
 case atStart=>exact⟨0,Nat.zero_le _,rfl⟩
 case round =>
  obtain⟨k,hk,rfl⟩:=hrel;by_cases hlt:k<l.length
  ·obtain⟨b,off,rfl,hb,hx⟩:=hl k hlt;have hf:Oc.fitsN l[k]=true:=List.all_eq_true.1 HOK.o _ (List.getElem_mem hlt);generalize l[k]=x at *;have HF:=hY hf;clear hl hf
   go_wp2_with (go_at_call 146;refine(octFits_any _ _).mono ?_;rintro e w1 ⟨rfl,rfl⟩;rw[HF.o])
   go_round
   case rel=>exact⟨k+1,by omega,by go_num⟩
   case measure=>first|(simp[intOf];done)|(simp[intOf];omega)
  ·obtain rfl:k=l.length:=by omega
   clear hl;go_wp2
   go_loopw [24] (fun i wr=>∃(k:Nat) (vk:Value),k≤l.length∧i = .int .i64 k∧WriterAt w0.heap.size B wr vk (bs++Oc.bes (l.take k))∧Grew w0 wr∧RowsAt 1 encN wr (.slice a l.length cap) l∧(∀b off,(∃n c,(.slice a l.length cap:Value) = .slice (some ⟨b,off,none⟩) n c)→Safe w0.heap.size b wr∧b≠B)∧Hid (KeptW w0.heap.size B W wr))
    (fun i _=>l.length-(intOf i).toNat)
   case atStart=>exact⟨0,vb,Nat.zero_le _,rfl,by simpa [Oc.bes] using HW.o,hg,HV.o,HS.o,hY (KeptW.refl _ _ _)⟩
   case round =>
    obtain⟨k,vk,hk,rfl,hwk,hgk,hrk,hsk,HKW⟩:=hrel;by_cases hlt:k<l.length
    ·obtain⟨a',cap',hveq,-,hl⟩:=hrk.open1;cases hveq;obtain⟨b,off,rfl,hb,hx⟩:=hl k hlt;have hfx:Oc.fitsN l[k]=true:=List.all_eq_true.1 HOK.o _ (List.getElem_mem hlt);have hbs:=Oc.bes_succ l k hlt;have hbl:=Oc.bes_len (l.take k);rw[List.length_take_of_le hk] at hbl;generalize l[k]=x at *;unfold Oc.fitsN at hfx;simp only[Bool.and_eq_true,decide_eq_true_eq] at hfx;obtain⟨x0,x1⟩:=hfx;have HBS:=hY hbs;have HBL:=hY hbl;clear hbs hbl;have hb':=hb;have HWK:=hY hwk;have HRK:=hY hrk;have HSK:=hY hsk;have hcB:=cell_of_heap (o:=0) hwk.2.1;have hfB:=frozen_of_heap (o:=0) hwk.2.1;simp at hcB;have HG:=hY hgk;clear hl hwk hrk hsk hgk hg
     go_wp2_with (at_builtin;refine wpList_ownG (w0:=w0) rfl (.tmp 35) (.tmp 47) 145 _ _ _ _ (Oc.be x) rfl Tryz.underlying145 infoU8 rfl (by decide) encB_len encB_one rfl (HWK.o.2.2.grew gw) (HG.o.alloc _) rfl (be_new _ _ _ _ _ rfl rfl) (by rw[List.length_append,HBL.o,Oc.be_len];omega) (by decide) ?_;intro v9 R9 n9 hown9 hkeep9;(have hB9:(w0.more R9 n9).heap[B]? = some (.cells #[vk] 147):=by rw[hkeep9 B (by have:=(Array.getElem?_eq_some_iff.1 HWK.o.2.1).1;simp[go_sem];omega) (HWK.o.safe.own HWK.o.2.2)];exact heap_alloc_old HWK.o.2.1 _);(have hcB9:=cell_of_heap (o:=0) hB9);(have hfB9:=frozen_of_heap (o:=0) hB9);simp at hcB9;obtain⟨b9,N9,c9,rfl⟩:=own_some hown9 (fun h=>by have h2:=congrArg List.length h;rw[List.length_append,Oc.be_len] at h2;simp at h2);(have HO9:=hY hown9);(have HK9:=hY hkeep9);(have HB9:=hY hB9);clear hown9 hkeep9 hB9)
     have hBb:B≠b:=fun e=>(HSK.o b off ⟨_,_,rfl⟩).2 e.symm
     have hsb:=(HSK.o b off ⟨_,_,rfl⟩).1
     have hkb:(w0.more R9 n9).heap[b]? = wr.heap[b]? :=by
      have hlt:b<wr.heap.size:=hb';rw[HK9.o b (by simp[go_sem];omega) (hsb.own HWK.o.2.2)];have:wr.heap[b]? = some wr.heap[b]:=Array.getElem?_eq_getElem hlt;rw[this];exact heap_alloc_old this _
     have hfin:∀v9,((w0.more R9 n9).setCell ⟨B,0,none⟩ v9).heap[b]? = wr.heap[b]? :=fun v9=>by rw[heap_set_other hBb,hkb]
     have hsB:Safe w0.heap.size B (w0.more R9 n9):=.inr ⟨_,_,_,HB9.o,by decide⟩;have HFIN:=hY hfin;clear hfin hkb
     go_roundw
     case rel =>
      refine⟨k+1,_,by omega,by go_num,⟨HWK.o.1,heap_set_self HB9.o,?_⟩,Grew.setBehind ⟨R9,n9,rfl⟩ HWK.o.1 _,RowsAt.sameBlock HRK.o ?_,?_,hY (HKW.o.trans (KeptW.step HWK.o HK9.o))⟩
      ·rw[HBS.o,←List.append_assoc];exact OwnAt.sameBlock HO9.o fun q hq=>heap_set_other (fun e=>by subst e;exact hsB.own HO9.o hq)
      ·rintro b2 off2 ⟨n2,c2,e⟩;cases e;exact HFIN.o _
      ·rintro b2 off2 ⟨n2,c2,e⟩;cases e;exact⟨hsb.sameBlock (HFIN.o _),fun e=>hBb e.symm⟩
     case measure=>first|(simp[intOf];done)|(simp[intOf];omega)
    ·obtain rfl:k=l.length:=by omega
     rw[List.take_length] at hwk;have HWK:=hY hwk;clear hwk hrk hsk;go_wp2;go_ret;exact⟨rfl,hgk,HKW.o,vk,HWK.o⟩
theorem writerNum_freshK(w0 W:World)(B:Nat)(vb:Value)(bs:List UInt8)(l:List Int)(c:List Value)(b n cap:Nat)(hw:WriterAt w0.heap.size B W vb bs)(hg:Grew w0 W)(hc:c=l.map (Value.int .i64))(hb:b=W.heap.size)(hn:n=l.length)
  (hok:l.all Oc.fitsN=true) (hlen:bs.length+l.length*4≤100000) :
  Calls Tryz.prog 91 #[.pointer (some ⟨B,0,none⟩),.slice (some ⟨b,0,none⟩) n cap] (W.alloc (.cells c.toArray 3)) fun e W'=>e = .returned (.int .i64 0)∧Grew w0 W'∧KeptW w0.heap.size B W W'∧∃vb',WriterAt w0.heap.size B W' vb' (bs++Oc.bes l):=by
 have hB:=(Array.getElem?_eq_some_iff.1 hw.2.1).1;refine(writerNum_keep w0 _ B vb bs _ l (hw.grew ((Grew.refl W).alloc _)) (hg.alloc _) ?_ ?_ hok hlen).mono fun e W' ⟨h1,h2,h3,h4⟩=>⟨h1,h2,(KeptW.ofGrew ((Grew.refl W).alloc _)).trans h3,h4⟩
 ·refine RowsAt.fresh hn (by unfold maxLen;omega) encN_len hb ?_;rw[hc];clear hc hok hlen hn
  induction l with
  | nil=>rfl
  | cons x l ih=>rw[List.map_cons,List.flatMap_cons,ih];rfl
 ·rintro b2 off ⟨n2,c2,e⟩;cases e;subst hb;exact⟨.inr ⟨_,_,_,heap_new_at W _ _ rfl,by decide⟩,by omega⟩
theorem rows_lt{α:Type}{k:Nat}{enc:α→List Value}{w:World}{b off n c:Nat}{l:List α}(h:RowsAt (k+1) enc w (.slice (some ⟨b,off,none⟩) n c) l)(hn:0<l.length)(he:∀x,(enc x).length=k+1:=by intro _;rfl): b<w.heap.size:=by
 obtain⟨a,cap,e,hm,hx⟩:=h;obtain⟨b',off',e2,hc⟩:=hx (by intro e;subst e;simp at hn);cases e;cases e2;have h0:0<(enc l[0]).length:=by rw[he];omega
 exact World.block_lt_of_cell? w _ (hc 0 l[0] (List.getElem?_eq_getElem hn) 0 _ (List.getElem?_eq_getElem h0))
theorem codePut_keep(w0 W:World)(B:Nat)(vb:Value)(bs:List UInt8)(v:Value)(l:List Val)(hw:WriterAt w0.heap.size B W vb bs)(hg:Grew w0 W)(hv:ValsAt W v l)(hs:∀b off,(∃n c,v = .slice (some ⟨b,off,none⟩) n c)→Safe w0.heap.size b W∧b≠B)(hf:Co.fitsI l=true)(hlen:bs.length≤10000):
  Calls Tryz.prog 154 #[.pointer (some ⟨B,0,none⟩),v] W fun e W'=>e = .returned (.int .i64 0)∧Grew w0 W'∧KeptW w0.heap.size B W W'∧∃vb',WriterAt w0.heap.size B W' vb' (bs++putI l):=by
 obtain⟨a,cap,rfl,hm,-⟩:=hv.open2;obtain⟨l24,hrl⟩:=Co.fits_parts hf;have HV:=hY hv;have HSF:=hY hs;have HF:=hY hf;have HR:=hY hrl;have HW:=hY hw;have HG:=hY hg;clear hv hs hf hrl hw hg;go_enter Tryz.func154,Tryz.ntmps154
 go_wp2_with (first
  | (go_at_call 191;refine(codeFits_any _ l _ (HV.o.grew gw)).mono ?_;rintro e w1 ⟨rfl,R3,n3,rfl⟩;rw[HF.o])
  | (go_at_call 91;refine(writerNum_freshK w0 _ B vb bs [(l.length:Int)] [.int .i64 l.length] _ _ _ (HW.o.grew gw) (HG.o.trans gw) rfl (by simp[go_sem]) rfl (by simp[Oc.fitsN];omega) (by simp;omega)).mono ?_;rintro e w1 ⟨rfl,hg1,hk1,vb1,hw1⟩;(have HW1:=hY hw1);(have HG1:=hY hg1);(have HK1:=hY ((KeptW.ofGrew (W:=W) gw).trans hk1));clear hw1 hg1 hk1)
  )
 go_loopw [21] (fun i wr=>∃(k:Nat) (vk:Value),k≤l.length∧i = .int .i64 k∧WriterAt w0.heap.size B wr vk (bs++Oc.be l.length++Oc.bes (nums (l.take k)))∧Hid (Grew w0 wr)∧Hid (KeptW w0.heap.size B W wr)) (fun i _=>l.length-(intOf i).toNat)
 case atStart=>exact⟨0,vb1,Nat.zero_le _,rfl,by have:=HW1.o;simpa [Oc.bes,nums] using this,HG1,HK1⟩
 case round =>
  obtain⟨k,vk,hk,rfl,hwk,HGR,HKR⟩:=hrel;have HWK:=hY hwk;clear hwk;by_cases hlt:k<l.length
  ·have hrk:ValsAt wr (.slice a l.length cap) l:=RowsAt.sameBlock HV.o (fun b off h=>HKR.o.2 b (by obtain⟨n1,c1,e1⟩:=h;cases e1;exact rows_lt HV.o (by omega)) (HSF.o b off h).2 (HSF.o b off h).1);obtain⟨a',cap',e',-,hl⟩:=hrk.open2;cases e';obtain⟨b,off,rfl,hb,hx,hy⟩:=hl k hlt;have hns:=nums_succ l k hlt;have hri:=HR.o l[k] (List.getElem_mem hlt);have hnl:=nums_len (l.take k);rw[List.length_take_of_le hk] at hnl;generalize l[k]=xy at *;obtain⟨x,y⟩:=xy;obtain⟨fx,fy⟩:=right_fitsN hri;simp only at hx hy hns;have HNS:=hY hns;have HNL:=hY hnl;have HFX:=hY fx;have HFY:=hY fy;clear hl hns hnl fx fy hri hrk
   go_wp2_with (go_at_call 91;refine(writerNum_freshK w0 _ B vk _ [x,y] [.int .i64 x,.int .i64 y] _ _ _ (HWK.o.grew gw) (HGR.o.trans gw) rfl (by simp[go_sem]) rfl (by simp[HFX.o,HFY.o]) (by rw[List.length_append,List.length_append,Oc.be_len,Oc.bes_len,HNL.o];simp;omega)).mono ?_;rintro e w1 ⟨rfl,hg2,hk2,vb2,hw2⟩;(have HW2:=hY hw2);(have HG2:=hY hg2);(have HK2:=hY hk2);clear hw2 hg2 hk2)
   go_roundw
   case rel=>exact⟨k+1,vb2,by omega,by go_num,by rw[HNS.o,Oc.bes_append,←List.append_assoc];exact HW2.o,HG2,hY (HKR.o.trans ((KeptW.ofGrew gw).trans HK2.o))⟩
   case measure=>first|(simp[intOf];done)|(simp[intOf];omega)
  ·obtain rfl:k=l.length:=by omega
   go_wp2;go_ret;refine⟨rfl,HGR.o,HKR.o,vk,?_⟩;have:=HWK.o;rw[List.take_length,List.append_assoc] at this;exact this
def numR(s:List UInt8): Int×Int×List UInt8:=within s (-2147483648) 2147483647
def readL:Nat→List UInt8→List Val→List Val×Int×List UInt8
 | 0,s,acc=>(acc,0,s)
 |n+1,s,acc =>
  if (within s 0 17).2.1≠0 then ([],(within s 0 17).2.1,(within s 0 17).2.2)
  else if (numR (within s 0 17).2.2).2.1≠0 then ([],(numR (within s 0 17).2.2).2.1,(numR (within s 0 17).2.2).2.2)
  else readL n (numR (within s 0 17).2.2).2.2 (acc++[((within s 0 17).1,(numR (within s 0 17).2.2).1)])
def getL(s:List UInt8): List Val×Int×List UInt8 :=
 if (within s 0 24).2.1≠0 then ([],(within s 0 24).2.1,(within s 0 24).2.2)
 else if (readL (within s 0 24).1.toNat (within s 0 24).2.2 []).2.1≠0 then readL (within s 0 24).1.toNat (within s 0 24).2.2 []
 else if Co.fitsI (readL (within s 0 24).1.toNat (within s 0 24).2.2 []).1 then readL (within s 0 24).1.toNat (within s 0 24).2.2 []
 else ([],4,(readL (within s 0 24).1.toNat (within s 0 24).2.2 []).2.2)
theorem within_len(s:List UInt8)(a b:Int): (within s a b).2.2.length≤s.length:=by
 unfold within;split
 ·exact Nat.le_refl _
 ·split
  ·exact Nat.le_refl _
  ·simp
theorem within_ok{s:List UInt8}{a b:Int}(h:(within s a b).2.1=0): a≤(within s a b).1∧(within s a b).1≤b:=by
 unfold within at *;by_cases h4:s.length<4
 ·rw[if_pos h4] at h;simp at h
 ·rw[if_neg h4] at h ⊢;by_cases hr:Oc.num s<a∨b<Oc.num s
  ·rw[if_pos hr] at h;simp at h
  ·rw[if_neg hr];simp only;omega
theorem getL_of{s:List UInt8}{n e1:Int}{s1:List UInt8}(h:within s 0 24=(n,e1,s1)):
  getL s=if e1≠0 then ([],e1,s1) else if (readL n.toNat s1 []).2.1≠0 then readL n.toNat s1 [] else if Co.fitsI (readL n.toNat s1 []).1 then readL n.toNat s1 [] else ([],4,(readL n.toNat s1 []).2.2):=by
 unfold getL;rw[h]
theorem readL_bad1{n:Nat}{s s2:List UInt8}{acc:List Val}{op e2:Int}(h:within s 0 17=(op,e2,s2))(he:e2≠0): readL (n+1) s acc=([],e2,s2):=by
 unfold readL;rw[h,if_pos he]
theorem readL_bad2{n:Nat}{s s2 s3:List UInt8}{acc:List Val}{op a e3:Int}(h:within s 0 17=(op,0,s2))(h2:numR s2=(a,e3,s3))(he:e3≠0): readL (n+1) s acc=([],e3,s3):=by
 unfold readL;rw[h];simp only;rw[h2,if_neg (by simp),if_pos he]
theorem readL_ok{n:Nat}{s s2 s3:List UInt8}{acc:List Val}{op a:Int}(h:within s 0 17=(op,0,s2))(h2:numR s2=(a,0,s3)): readL (n+1) s acc=readL n s3 (acc++[(op,a)]):=by
 rw[readL,h];simp only;rw[h2,if_neg (by simp),if_neg (by simp)]
theorem getL_bad{s s1 s2:List UInt8}{N:Nat}{e:Int}(h:within s 0 24=((N:Int),0,s1))(hr:readL N s1 []=([],e,s2))(he:e≠0): getL s=([],e,s2):=by
 rw[getL_of h,if_neg (by simp),Int.toNat_natCast,hr,if_pos he]
theorem getL_fit{s s1 s2:List UInt8}{N:Nat}{acc:List Val}(h:within s 0 24=((N:Int),0,s1))(hr:readL N s1 []=(acc,0,s2)): getL s=if Co.fitsI acc then (acc,0,s2) else ([],4,s2):=by
 rw[getL_of h,if_neg (by simp),Int.toNat_natCast,hr,if_neg (by simp)]
theorem cd_be{n a b:Int}(t:List UInt8)(hf:Oc.fitsN n=true)(h1:a≤n)(h2:n≤b): within (Oc.be n++t) a b=(n,0,t):=Gr.wn_put h1 h2 hf t
theorem cd_numR{n:Int}(t:List UInt8)(hf:Oc.fitsN n=true): numR (Oc.be n++t)=(n,0,t):=by
 have h:=hf;unfold Oc.fitsN at h;simp only[Bool.and_eq_true,decide_eq_true_eq] at h;exact cd_be t hf h.1 h.2
theorem cd_nums(x y:Int)(l:List Val)(s:List UInt8): Oc.bes (nums ((x,y)::l))++s=Oc.be x++(Oc.be y++(Oc.bes (nums l)++s)):=by
 have:nums ((x,y)::l)=[x]++([y]++nums l):=rfl;rw[this,Oc.bes_append,Oc.bes_append];have e1:∀z,Oc.bes [z]=Oc.be z:=fun z=>by unfold Oc.bes;simp
 rw[e1,e1];simp only[List.append_assoc]
theorem cd_readL_put:∀(l:List Val) (s:List UInt8) (acc:List Val),(∀i∈l,Co.rightI i=true)→readL l.length (Oc.bes (nums l)++s) acc=(acc++l,0,s)
 | [],s,acc,_=>by show readL 0 s acc=_;rw[readL,List.append_nil]
 |(x,y)::l,s,acc,h=>by
  have hr:=h (x,y) List.mem_cons_self;obtain⟨fx,fy⟩:=right_fitsN hr;obtain⟨x0,x1,_,_⟩:=Co.right_parts hr;simp only at x0 x1;rw[cd_nums,List.length_cons,readL_ok (cd_be _ fx x0 (by omega)) (cd_numR _ fy),cd_readL_put l s _ fun i hi=>h i (List.mem_cons_of_mem _ hi)];simp
theorem cd_put{l:List Val}(h:Co.fitsI l=true)(s:List UInt8): getL (putI l++s)=(l,0,s):=by
 obtain⟨h24,hr⟩:=Co.fits_parts h;have hf:Oc.fitsN (l.length:Int)=true:=by unfold Oc.fitsN;simp;omega
 have e:putI l++s=Oc.be l.length++(Oc.bes (nums l)++s):=by unfold putI;simp only[List.append_assoc]
 have hw:within (putI l++s) 0 24=((l.length:Int),0,Oc.bes (nums l)++s):=by rw[e];exact cd_be _ hf (by omega) (by omega)
 rw[getL_fit hw (cd_readL_put l s [] hr),List.nil_append,h,if_pos rfl]
theorem cd_readL_len:∀(n:Nat) (s:List UInt8) (acc:List Val),(readL n s acc).2.2.length≤s.length
 | 0,s,acc=>Nat.le_refl _
 |n+1,s,acc=>by
  have h1:=within_len s 0 17;have h2:(numR (within s 0 17).2.2).2.2.length≤(within s 0 17).2.2.length:=within_len _ _ _;rw[readL];split
  ·exact h1
  ·split
   ·exact Nat.le_trans h2 h1
   ·exact Nat.le_trans (cd_readL_len n _ _) (Nat.le_trans h2 h1)
theorem cd_len(s:List UInt8): (getL s).2.2.length≤s.length:=by
 have h1:=within_len s 0 24;have h2:=cd_readL_len (within s 0 24).1.toNat (within s 0 24).2.2 [];unfold getL;split
 ·exact h1
 ·split
  ·exact Nat.le_trans h2 h1
  ·split
   ·exact Nat.le_trans h2 h1
   ·exact Nat.le_trans h2 h1
theorem cd_readL_can:∀(n:Nat) (s:List UInt8) (acc r:List Val) (t:List UInt8),readL n s acc=(r,0,t)→∃l,r=acc++l∧l.length=n∧s=Oc.bes (nums l)++t
 |0,s,acc,r,t,h=>by
  rw[readL] at h;cases h
  exact⟨[],by simp,rfl,rfl⟩
 |n+1,s,acc,r,t,h=>by
  rw[readL] at h;obtain⟨x,e1,s1,hx⟩:∃x e1 s1,within s 0 17=(x,e1,s1):=⟨_,_,_,rfl⟩;rw[hx] at h;simp only at h;by_cases h1:e1=0
  ·subst h1;rw[if_neg (by simp)] at h;obtain⟨y,e2,s2,hy⟩:∃y e2 s2,numR s1=(y,e2,s2):=⟨_,_,_,rfl⟩;rw[hy] at h;simp only at h;by_cases h2:e2=0
   ·subst h2;rw[if_neg (by simp)] at h;obtain⟨l,h3,h4,h5⟩:=cd_readL_can n s2 _ r t h;obtain⟨q1,-,-⟩:=Gr.wn_can (a:=0) (b:=17) hx;obtain⟨q2,-,-⟩:=Gr.wn_can (a:=-2147483648) (b:=2147483647) hy;refine⟨(x,y)::l,by rw[h3];simp,by rw[List.length_cons,h4],?_⟩;rw[cd_nums,q1,q2,h5]
   ·rw[if_pos h2] at h;cases h;exact absurd rfl h2
  ·rw[if_pos h1] at h;cases h;exact absurd rfl h1
theorem cd_can{s:List UInt8}{l:List Val}{t:List UInt8}(h:getL s=(l,0,t)): s=putI l++t∧Co.fitsI l=true:=by
 unfold getL at h;obtain⟨n,e1,s1,hx⟩:∃n e1 s1,within s 0 24=(n,e1,s1):=⟨_,_,_,rfl⟩;rw[hx] at h;simp only at h;by_cases h1:e1=0
 ·subst h1;rw[if_neg (by simp)] at h;obtain⟨r,e2,t2,hr⟩:∃r e2 t2,readL n.toNat s1 []=(r,e2,t2):=⟨_,_,_,rfl⟩;rw[hr] at h;simp only at h;by_cases h2:e2=0
  ·subst h2;rw[if_neg (by simp)] at h;by_cases h3:Co.fitsI r=true
   ·rw[if_pos h3] at h;cases h;obtain⟨l2,h4,h5,h6⟩:=cd_readL_can _ _ _ _ _ hr;rw[List.nil_append] at h4;subst h4;obtain⟨q1,q2,q3⟩:=Gr.wn_can (a:=0) (b:=24) hx;refine⟨?_,h3⟩;unfold putI;rw[q1,h6,show(l.length:Int)=n by omega,List.append_assoc]
   ·rw[if_neg h3] at h;cases h
  ·rw[if_pos h2] at h;cases h;exact absurd rfl h2
 ·rw[if_pos h1] at h;cases h;exact absurd rfl h1
theorem codecI:Gr.Codec getL putI (fun p=>Co.fitsI p=true):=⟨fun l t h=>cd_put h t,fun s l t h=>cd_can h⟩
theorem progS_len(s:Gr.Rs): (Gr.progS getL s).2.1.length≤s.1.length:=by
 unfold Gr.progS;split
 ·exact Nat.le_refl _
 ·exact cd_len _
end Go.Proofs.YtipgfjihdglocaaGreat
namespace Go.Proofs.YtipgfjihdglocaaGreat
open Go.RowKit
def textR(most:Int)(s:List UInt8): List UInt8×Int×List UInt8 :=
 if s.length<4 then ([],3,s) else if Oc.num s<0∨most<Oc.num s then ([],2,s)
 else if (s.length:Int)-4<Oc.num s then ([],3,s) else ((s.drop 4).take (Oc.num s).toNat,0,s.drop (4+(Oc.num s).toNat))
theorem cutT(s:List UInt8)(a b:Nat): (⟨s.toArray⟩:ByteArray).extract a b=⟨((s.drop a).take (b-a)).toArray⟩:=by
 have h:((⟨s.toArray⟩:ByteArray).extract a b).data.toList=(s.drop a).take (b-a):=by
  rw[Lib.extract_data]
 generalize (⟨s.toArray⟩:ByteArray).extract a b=t at h;obtain⟨⟨l⟩⟩:=t;simp only at h;rw[h]
theorem octGetText_any(w0:World)(B:Nat)(s:List UInt8)(most:Int)(w:World)(h:ReaderAt w0.heap.size B w s)(hg:Grew w0 w)(hs:s.length≤1000000):
  Calls Tryz.prog 150 #[.pointer (some ⟨B,0,none⟩),.int .i64 most] w fun e w'=>e = .returned (.tuple #[.string ⟨(textR most s).1.toArray⟩,.int .i64 (textR most s).2.1])∧ReaderAt w0.heap.size B w' (textR most s).2.2∧Grew w0 w'∧Keep B w w':=by
 have hc:=cell_of_heap (o:=0) h.2;have hf:=frozen_of_heap (o:=0) h.2;simp at hc;have hB:=Pre.ofCell hc;have H:=hY h;have HG:=hY hg;clear h hg;by_cases h4:s.length<4
 ·have e0:textR most s=([],3,s):=by unfold textR;rw[if_pos h4]
  have e1:peekV s=0:=by unfold peekV;rw[if_pos h4]
  have e2:peekE s=3:=by unfold peekE;rw[if_pos h4]
  have E1:=hY e1;have E2:=hY e2;rw[e0];clear e0 e1 e2;go_enter Tryz.func150,Tryz.ntmps150
  go_wp2_with (go_at_call 190;refine(octPeek_any _ B s _ H.o hs).mono ?_;rintro e w1 ⟨rfl,R3,n3,rfl⟩;rw[E1.o,E2.o])
  exact bodyPost_ret (v:=.tuple #[.string ⟨([]:List UInt8).toArray⟩,.int .i64 3]) (by simp[results,Tryz.results150,go_sem]) rfl ⟨rfl,H.o.grew gw,HG.o.trans gw,Keep.ofGrew gw⟩
 ·have e1:peekV s=Oc.num s:=by unfold peekV;rw[if_neg h4]
  have e2:peekE s=0:=by unfold peekE;rw[if_neg h4]
  have E1:=hY e1;have E2:=hY e2;clear e1 e2;by_cases hr:Oc.num s<0∨most<Oc.num s
  ·have e0:textR most s=([],2,s):=by unfold textR;rw[if_neg h4,if_pos hr]
   rw[e0];clear e0;generalize Oc.num s=z at *;go_enter Tryz.func150,Tryz.ntmps150;by_cases hra:z<0
   ·go_wp2_with (go_at_call 190;refine(octPeek_any _ B s _ H.o hs).mono ?_;rintro e w1 ⟨rfl,R3,n3,rfl⟩;rw[E1.o,E2.o])
    all_goals
     exact bodyPost_ret (v:=.tuple #[.string ⟨([]:List UInt8).toArray⟩,.int .i64 2]) (by simp[results,Tryz.results150,go_sem]) rfl ⟨rfl,H.o.grew gw,HG.o.trans gw,Keep.ofGrew gw⟩
   ·have hrb:most<z:=by omega
    clear hr
    go_wp2_with (go_at_call 190;refine(octPeek_any _ B s _ H.o hs).mono ?_;rintro e w1 ⟨rfl,R3,n3,rfl⟩;rw[E1.o,E2.o])
    all_goals
     exact bodyPost_ret (v:=.tuple #[.string ⟨([]:List UInt8).toArray⟩,.int .i64 2]) (by simp[results,Tryz.results150,go_sem]) rfl ⟨rfl,H.o.grew gw,HG.o.trans gw,Keep.ofGrew gw⟩
  ·have hra:¬Oc.num s<0:=fun h=>hr (.inl h)
   have hrb:¬most<Oc.num s:=fun h=>hr (.inr h)
   have h4':4≤s.length:=by omega
   obtain⟨N,hN⟩:∃N:Nat,Oc.num s=N:=⟨(Oc.num s).toNat,by omega⟩;by_cases hl:(s.length:Int)-4<Oc.num s
   ·have e0:textR most s=([],3,s):=by unfold textR;rw[if_neg h4,if_neg hr,if_pos hl]
    rw[e0];clear e0 hr hN;have hz:=Oc.num_range s;generalize Oc.num s=z at *;obtain⟨hz0,hz1⟩:=hz;go_enter Tryz.func150,Tryz.ntmps150
    go_wp2_with (go_at_call 190;refine(octPeek_any _ B s _ H.o hs).mono ?_;rintro e w1 ⟨rfl,R3,n3,rfl⟩;rw[E1.o,E2.o])
    exact bodyPost_ret (v:=.tuple #[.string ⟨([]:List UInt8).toArray⟩,.int .i64 3]) (by simp[results,Tryz.results150,go_sem]) rfl ⟨rfl,H.o.grew gw,HG.o.trans gw,Keep.ofGrew gw⟩
   ·have e0:textR most s=((s.drop 4).take N,0,s.drop (4+N)):=by unfold textR;rw[if_neg h4,if_neg hr,if_neg hl,hN];rfl
    rw[e0];clear e0 hr;rw[hN] at hra hrb hl E1;have hNl:4+N≤s.length:=by omega
    have hd1:=cutT s 4 (4+N);have hd2:=cutT s (4+N) s.length;rw[Nat.add_sub_cancel_left] at hd1;rw[List.take_of_length_le (by rw[List.length_drop];omega)] at hd2;clear hN;go_enter Tryz.func150,Tryz.ntmps150
    go_wp2_with (go_at_call 190;refine(octPeek_any _ B s _ H.o hs).mono ?_;rintro e w1 ⟨rfl,R3,n3,rfl⟩;rw[E1.o,E2.o])
    exact bodyPost_ret (v:=.tuple #[.string ⟨((s.drop 4).take N).toArray⟩,.int .i64 0]) (by simp[results,Tryz.results150,go_sem];exact hd1) rfl
     ⟨rfl,ReaderAt.grew (W:=w.setCell ⟨B,0,none⟩ (.string ⟨(s.drop (4+N)).toArray⟩)) ⟨H.o.1,heap_set_self H.o.2⟩ gw,(Grew.setBehind HG.o H.o.1 _).more _ _,(Keep.set _).trans (Keep.ofGrew gw)⟩
end Go.Proofs.YtipgfjihdglocaaGreat
