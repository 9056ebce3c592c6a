import Derived.WalkKit
set_option linter.unusedSimpArgs false
set_option linter.unusedVariables false
set_option maxRecDepth 100000
set_option maxHeartbeats 64000000
namespace Ga
def into(n:Int): Int :=
 if n.tmod 1048576<0 then (if n.tmod 1048576+1048576≥524288 then n.tmod 1048576 else n.tmod 1048576+1048576)
 else if n.tmod 1048576≥524288 then n.tmod 1048576-1048576 else n.tmod 1048576
theorem tmod_lt(n:Int): n.tmod 1048576<1048576:=Int.tmod_lt_of_pos _ (by decide)
theorem lt_tmod(n:Int): -1048576<n.tmod 1048576:=Int.lt_tmod_of_pos _ (by decide)
theorem into_range(n:Int): -524288≤into n∧into n<524288:=by
 have h1:=tmod_lt n;have h2:=lt_tmod n;unfold into;split<;>split<;>omega
theorem into_eq(n:Int): into n=(n+524288)%1048576-524288:=by
 have h1:=tmod_lt n;have h2:=lt_tmod n;have h3:=Int.mul_tdiv_add_tmod n 1048576;unfold into;split<;>split<;>omega
theorem into_id{n:Int}(h : -524288≤n∧n<524288): into n=n:=by rw[into_eq];omega
theorem into_mod(n:Int): into n%1048576=n%1048576:=by rw[into_eq];omega
theorem into_ref(n:Int): (if (if n.tmod 1048576 < -524288 then n.tmod 1048576+1048576 else n.tmod 1048576)≥524288 then (if n.tmod 1048576 < -524288 then n.tmod 1048576+1048576 else n.tmod 1048576)-1048576 else (if n.tmod 1048576 < -524288 then n.tmod 1048576+1048576 else n.tmod 1048576))=into n:=by
 have h1:=tmod_lt n;have h2:=lt_tmod n;have h3:=Int.mul_tdiv_add_tmod n 1048576;rw[into_eq];split<;>split<;>omega
abbrev Val:=Int×Int
def ofV(a:Val): Val:=(into a.1,into a.2)
def rightV(a:Val): Bool:=decide (a.1=into a.1)&&decide (a.2=into a.2)
def addV(a b:Val): Val:=(into (into a.1+into b.1),into (into a.2+into b.2))
def subV(a b:Val): Val:=(into (into a.1-into b.1),into (into a.2-into b.2))
def mulV(a b:Val): Val:=(into (into a.1*into b.1-into a.2*into b.2),into (into a.1*into b.2+into a.2*into b.1))
def conjV(a:Val): Val:=(into (into a.1),into (-into a.2))
def turnV(a:Val): Val:=(into (into a.1*0-into a.2*1),into (into a.1*1+into a.2*0))
def zeroV(a:Val): Bool:=decide (into a.1=0)&&decide (into a.2=0)
def lessV(a b:Val): Bool:=decide (into a.1<into b.1)
def Eqv(a b:Val): Prop:=a.1%1048576=b.1%1048576∧a.2%1048576=b.2%1048576
theorem Eqv.of(a:Val): Eqv (ofV a) a:=⟨into_mod _,into_mod _⟩
end Ga
namespace Oc
def fitsN(n:Int): Bool:=decide (-2147483648≤n)&&decide (n≤2147483647)
def be(n:Int): List UInt8:=[UInt8.ofNat (n%4294967296 / 16777216).toNat,UInt8.ofNat (n%4294967296 / 65536%256).toNat,UInt8.ofNat (n%4294967296 / 256%256).toNat,UInt8.ofNat (n%4294967296%256).toNat]
def bes(l:List Int): List UInt8:=l.flatMap be
def raw:List UInt8→Int
 | a::b::c::d::_=>((a.toNat*256+b.toNat)*256+c.toNat)*256+d.toNat
 | _=>0
def num(l:List UInt8): Int:=if 2147483648≤raw l then raw l-4294967296 else raw l
theorem be_len(n:Int): (be n).length=4:=rfl
theorem bes_len:∀(l:List Int),(bes l).length=l.length*4
 | []=>rfl
 | n::l=>by unfold bes;rw[List.flatMap_cons,List.length_append,be_len];have:=bes_len l;unfold bes at this;rw[this];simp;omega
theorem raw_be(n:Int)(t:List UInt8): raw (be n++t)=n%4294967296:=by
 unfold be raw;simp only[List.cons_append];have h0:0≤n%4294967296:=Int.emod_nonneg _ (by decide);have h1:n%4294967296<4294967296:=Int.emod_lt_of_pos _ (by decide);generalize n%4294967296=u at *;simp only[UInt8.toNat_ofNat'];omega
theorem num_be(n:Int)(h:fitsN n=true)(t:List UInt8): num (be n++t)=n:=by
 unfold fitsN at h;simp only[Bool.and_eq_true,decide_eq_true_eq] at h;unfold num;rw[raw_be];split<;>omega
theorem raw4(a b c d:UInt8)(t:List UInt8): raw (a::b::c::d::t)=((a.toNat*256+b.toNat)*256+c.toNat)*256+d.toNat:=rfl
theorem raw_range:∀(l:List UInt8),0≤raw l∧raw l<4294967296
 |a::b::c::d::_=>by
  have:=a.toNat_lt;have:=b.toNat_lt;have:=c.toNat_lt;have:=d.toNat_lt
  rw[raw4];omega
 | []=>⟨Int.le_refl _,(by decide:(0:Int)<4294967296)⟩
 | [_]=>⟨Int.le_refl _,(by decide:(0:Int)<4294967296)⟩
 | [_,_]=>⟨Int.le_refl _,(by decide:(0:Int)<4294967296)⟩
 | [_,_,_]=>⟨Int.le_refl _,(by decide:(0:Int)<4294967296)⟩
theorem num_range(l:List UInt8): -2147483648≤num l∧num l≤2147483647:=by
 have:=raw_range l;unfold num;split<;>omega
theorem be_num(a b c d:UInt8)(t:List UInt8): be (num (a::b::c::d::t))=[a,b,c,d]:=by
 have ha:=a.toNat_lt;have hb:=b.toNat_lt;have hc:=c.toNat_lt;have hd:=d.toNat_lt
 have hu:num (a::b::c::d::t)%4294967296=((a.toNat*256+b.toNat)*256+c.toNat)*256+d.toNat:=by
  unfold num;rw[raw4];split<;>omega
 unfold be;rw[hu]
 have e:∀(x:UInt8) (z:Int),z=x.toNat→UInt8.ofNat z.toNat=x:=by
  rintro x z rfl;rw[Int.toNat_natCast];apply UInt8.toNat_inj.1;rw[UInt8.toNat_ofNat'];exact Nat.mod_eq_of_lt x.toNat_lt
 rw[e a _ (by omega),e b _ (by omega),e c _ (by omega),e d _ (by omega)]
def part(l:List UInt8)(k:Nat): Int:=(l.take k).foldl (fun u c=>u*256+(c.toNat:Int)) 0
theorem part_succ(l:List UInt8)(k:Nat)(x:UInt8)(h:l[k]? = some x): part l (k+1)=part l k*256+x.toNat:=by
 have hk:=(List.getElem?_eq_some_iff.1 h).1;have hx:l[k]=x:=(List.getElem?_eq_some_iff.1 h).2;unfold part;rw[List.take_succ_eq_append_getElem hk,List.foldl_append,hx];rfl
theorem part_range(l:List UInt8): ∀(k:Nat),k≤4→0≤part l k∧part l k<256^k
 | 0,_=>by simp[part]
 |k+1,h=>by
  have ih:=part_range l k (by omega)
  cases hx:l[k]? with
  |none =>
   have:part l (k+1)=part l k:=by
    unfold part;have hl:=List.getElem?_eq_none_iff.1 hx;rw[List.take_of_length_le (by omega),List.take_of_length_le hl]
   rw[this];have:(256:Int)^(k+1)=256^k*256:=Int.pow_succ ..
   omega
  |some x =>
   rw[part_succ l k x hx];have:=x.toNat_lt;have:(256:Int)^(k+1)=256^k*256:=Int.pow_succ ..;omega
theorem part_raw:∀(l:List UInt8),4≤l.length→part l 4=raw l
 | a::b::c::d::t,_=>by simp[part,raw]
 | [],h=>by simp at h
 | [_],h=>by simp at h
 | [_,_],h=>by simp at h
 | [_,_,_],h=>by simp at h
theorem bes_append(l m:List Int): bes (l++m)=bes l++bes m:=by unfold bes;rw[List.flatMap_append]
theorem bes_succ(l:List Int)(k:Nat)(h:k<l.length): bes (l.take (k+1))=bes (l.take k)++be l[k]:=by
 rw[List.take_succ_eq_append_getElem h,bes_append];have:bes [l[k]]=be l[k]:=by unfold bes;simp
 rw[this]
end Oc
