import Derived.Test.YtipgfjihdglocaaGreatCq37
set_option linter.unusedSimpArgs false
set_option linter.unusedVariables false
set_option maxRecDepth 100000
set_option maxHeartbeats 64000000
namespace Go.Proofs.YtipgfjihdglocaaGreat
open Go.RowKit Ga
theorem u8_back{x:Int}(h:0≤x∧x<256): ((UInt8.ofNat x.toNat).toNat:Int)=x:=by
 have:(UInt8.ofNat x.toNat).toNat=x.toNat%256:=rfl;rw[this];omega
theorem conv4(w:World)(x0 x1 x2 x3:Int)(h0:0≤x0∧x0<256)(h1:0≤x1∧x1<256)(h2:0≤x2∧x2<256)(h3:0≤x3∧x3<256): (convert 145 9 (.slice (some ⟨w.heap.size,0,none⟩) 4 4)).run Tryz.prog (w.alloc (.cells #[.int .u8 x0,.int .u8 x1,.int .u8 x2,.int .u8 x3] 5)) = .ok (.string ⟨[UInt8.ofNat x0.toNat,UInt8.ofNat x1.toNat,UInt8.ofNat x2.toNat,UInt8.ofNat x3.toNat].toArray⟩) (w.alloc (.cells #[.int .u8 x0,.int .u8 x1,.int .u8 x2,.int .u8 x3] 5)):=by
 refine run_convert_bytes_back _ _ _ 5 ⟨w.heap.size,0,none⟩ 4 [UInt8.ofNat x0.toNat,UInt8.ofNat x1.toNat,UInt8.ofNat x2.toNat,UInt8.ofNat x3.toNat] Tryz.underlying145 Tryz.underlying5 Tryz.underlying9 ?_;intro j hj;rw[addr_add_zero,new_cells w _ _ _ rfl];rcases (show j=0∨j=1∨j=2∨j=3 by simp at hj;omega) with rfl|rfl|rfl|rfl
 ·show some (Value.int .u8 x0)=some (.int .u8 ((UInt8.ofNat x0.toNat).toNat:Int));rw[u8_back h0]
 ·show some (Value.int .u8 x1)=some (.int .u8 ((UInt8.ofNat x1.toNat).toNat:Int));rw[u8_back h1]
 ·show some (Value.int .u8 x2)=some (.int .u8 ((UInt8.ofNat x2.toNat).toNat:Int));rw[u8_back h2]
 ·show some (Value.int .u8 x3)=some (.int .u8 ((UInt8.ofNat x3.toNat).toNat:Int));rw[u8_back h3]
theorem sumFour_any(n:Int)(w:World): Calls Tryz.prog 147 #[.int .i64 n] w fun e w'=>∃b:List UInt8,b.length=4∧Gives (str b) w e w':=by
 have hk:=conv4 w (n / 16777216%256) (n / 65536%256) (n / 256%256) (n%256) (by omega) (by omega) (by omega) (by omega);go_enter Tryz.func147,Tryz.ntmps147;go_wp2;go_ret;exact⟨_,rfl,rfl,gw⟩
theorem sumOf_any(v:Value)(ls:List (List UInt8))(w:World)(hv:RowsAt 1 encS w v ls)(hl:∀l∈ls,l.length≤1000000): Calls Tryz.prog 148 #[v] w fun e w'=>∃y:Int,Gives (.int .i64 y) w e w':=by
 have HV:=hY hv;have HL:=hY hl;obtain⟨a,cap,rfl,hn,-⟩:=hv.open1;clear hv hl;go_enter Tryz.func148,Tryz.ntmps148;go_wp2
 go_loopg [3,9] ls.length (fun gg s3 s9 wr=>∃k:Nat,k≤ls.length∧ls.length-k≤gg∧s9 = .int .i64 k∧(∃y:Int,s3 = .int .u32 y)∧Hid (Grew w wr))
 case atStart=>exact⟨0,by omega,by omega,rfl,⟨_,rfl⟩,hY (Grew.refl _)⟩
 case round =>
  obtain⟨k,hk,hgg,rfl,⟨y,rfl⟩,HG⟩:=hrel;rename World=>wa;by_cases hlt:k<ls.length
  ·obtain⟨a',cap',e,-,hx⟩:=((HV.o.grew HG.o)).open1;cases e;obtain⟨b,off,rfl,hb,hc⟩:=hx k hlt;have HM:=hY (HL.o ls[k] (List.getElem_mem hlt));generalize ls[k]=s at *;have hsz:(s.length:Int)≤9223372036854775807:=by have:=HM.o;omega
   clear hx;have hk2:(k:Int)<ls.length:=by omega
   go_wp2
   go_loopg [3,15] s.length (fun gg s3 s15 wr=>∃i:Nat,i≤s.length∧s.length-i≤gg∧s15 = .int .i64 i∧(∃y:Int,s3 = .int .u32 y)∧Hid (Grew w wr))
   case atStart=>exact⟨0,by omega,by omega,rfl,⟨_,rfl⟩,HG⟩
   case round =>
    obtain⟨i,hi,hgi,rfl,⟨z,rfl⟩,HG2⟩:=hrel;rename World=>wb;by_cases hil:i<s.length
    ·have hi2:(i:Int)<s.length:=by omega
     go_wp2_with (go_at_call 189;refine(sumStep_any _ _ _).mono ?_;rintro e w1 ⟨y1,rfl,R3,n3,rfl⟩)
     go_roundg (s.length-(i+1))
     case measure=>omega
     case rel=>exact⟨i+1,by omega,by omega,by go_num,⟨_,rfl⟩,hY (HG2.o.trans gw)⟩
    ·obtain rfl:i=s.length:=by omega
     go_wp2
     go_roundg (ls.length-(k+1))
     case measure=>omega
     case rel=>exact⟨k+1,by omega,by omega,by go_num,⟨_,rfl⟩,hY (HG2.o.trans gw)⟩
  ·obtain rfl:k=ls.length:=by omega
   go_wp2;go_ret;exact⟨_,rfl,HG.o.trans gw⟩
end Go.Proofs.YtipgfjihdglocaaGreat
