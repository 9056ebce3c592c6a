import Ieee.Arith
set_option linter.unusedSimpArgs false
set_option linter.unusedVariables false
set_option maxRecDepth 100000
set_option maxHeartbeats 64000000
namespace Fl
open Ieee
def Is(s:Bool)(m:Nat)(e:Int)(z:Int): Prop :=
 (∃K:Nat,0≤e+K∧m*2^(e+K).toNat=z.natAbs*2^K)∧(z≠0→s=decide (z<0))
theorem pow_cancel{a b k:Nat}(h:a*2^k=b*2^k): a=b :=
 Nat.eq_of_mul_eq_mul_right (Nat.two_pow_pos k) h
theorem Is.zero(s:Bool)(e:Int): Is s 0 e 0:=⟨⟨e.natAbs,by omega,by rw[Nat.zero_mul];exact(Nat.zero_mul _).symm⟩,fun h=>absurd rfl h⟩
theorem Is.scale{s:Bool}{m:Nat}{e z:Int}(h:Is s m e z)(K:Nat)(hK:0≤e+K): m*2^(e+K).toNat=z.natAbs*2^K:=by
 obtain⟨⟨J,hJ,he⟩,_⟩:=h;rcases Nat.le_total J K with hle|hle
 ·have h1:(e+K).toNat=(e+J).toNat+(K-J):=by omega
  have h2:K=J+(K-J):=by omega
  rw[h1,Nat.pow_add,←Nat.mul_assoc,he,Nat.mul_assoc,←Nat.pow_add,←h2]
 ·have h1:(e+J).toNat=(e+K).toNat+(J-K):=by omega
  have h2:J=K+(J-K):=by omega
  rw[h1,Nat.pow_add,←Nat.mul_assoc,h2,Nat.pow_add,←Nat.mul_assoc] at he;have:J-K=K+(J-K)-K:=by omega
  rw[←this] at he;exact pow_cancel he
theorem log2_mul(n k:Nat)(h:n≠0): (n*2^k).log2=n.log2+k:=by
 have hp:0<2^k:=Nat.two_pow_pos k;have h0:n*2^k≠0:=Nat.mul_ne_zero h (by omega);rw[Nat.log2_eq_iff h0];constructor
 ·rw[Nat.pow_add];exact Nat.mul_le_mul_right _ (Nat.log2_self_le h)
 ·rw[show n.log2+k+1=(n.log2+1)+k by omega,Nat.pow_add];exact Nat.mul_lt_mul_of_pos_right Nat.lt_log2_self hp
theorem cut_exact(way:Toward)(neg:Bool)(q d:Nat)(h:q≠0): way.cut neg (q*2^d) d=q:=by
 have hl:(q*2^d).log2=q.log2+d:=log2_mul q d h;have hm:min d ((q*2^d).log2+2)=d:=by omega
 have hp:0<2^d:=Nat.two_pow_pos d;simp only[Toward.cut,hm,Nat.shiftLeft_eq,Nat.one_mul,Nat.mul_div_cancel _ hp,Nat.mul_mod_left];cases way<;>simp<;>omega
theorem leastPlace:double.leastPlace = -1074:=by decide
theorem binade:double.binade=2^52:=rfl
theorem signWeight:double.signWeight=2^63:=rfl
theorem infRung:double.infRung=2047*2^52:=rfl
theorem read_word(s:Bool)(r:Nat)(h1:2^52≤r)(h2:r<2047*2^52): double.read (double.word s r) = .number s (2^52+r%2^52) (-1074+(r / 2^52-1:Nat)):=by
 have hs:(double.word s r / 2^63%2==1)=s:=by
  unfold Format.word;simp only[signWeight];cases s<;>simp<;>omega
 have hm:double.word s r%2^63=r:=by
  unfold Format.word;simp only[signWeight];cases s<;>simp<;>omega
 unfold Format.read;simp only[signWeight,binade,leastPlace,infRung];rw[hs,if_neg (by omega),if_pos (by omega)]
 congr 1<;>omega
theorem read_nearest{s:Bool}{m:Nat}{e z:Int}(h:Is s m e z)(hz:z.natAbs<2^53):
  ∃m' e',double.read (double.nearest s m e) = .number s m' e'∧Is s m' e' z:=by
 by_cases h0:m=0
 ·subst h0
  have hz0:z=0:=by
   obtain⟨⟨K,_,hk⟩,_⟩:=h;rw[Nat.zero_mul] at hk;have hp:0<2^K:=Nat.two_pow_pos K;have:=(Nat.mul_eq_zero.1 hk.symm).resolve_right (by omega);omega
  subst hz0;refine⟨0,-1074,?_,Is.zero s _⟩;cases s<;>simp[Format.nearest,Format.word,Format.read,signWeight,binade,leastPlace]
 ·have hz0:z.natAbs≠0:=by
   obtain⟨⟨K,_,hk⟩,_⟩:=h;intro hz;rw[hz,Nat.zero_mul] at hk;have hp:0<2^(e+K).toNat:=Nat.two_pow_pos _;have:=Nat.mul_eq_zero.1 hk;omega
  obtain⟨K,hK⟩:∃K:Nat,K=e.natAbs+1200:=⟨_,rfl⟩;have hsc:=h.scale K (by omega)
  have hlog:(m.log2:Int)+e=z.natAbs.log2:=by
   have h1:=log2_mul m (e+K).toNat h0;have h2:=log2_mul z.natAbs K hz0;rw[hsc,h2] at h1;omega
  have hL:z.natAbs.log2<53:=(Nat.log2_lt hz0).2 hz;generalize hLn:z.natAbs.log2=L at *;have hlast:max (e+(m.log2:Int)-(52:Nat)) (-1074)=(L:Int)-52:=by omega
  have hkept:Toward.even.cut s (m <<< (e-((L:Int)-52)).toNat) (((L:Int)-52)-e).toNat=z.natAbs*2^(52-L):=by
   rw[Nat.shiftLeft_eq];rcases Int.le_total ((L:Int)-52) e with hle|hle
   ·have h1:(((L:Int)-52)-e).toNat=0:=by omega
    have h2:m*2^(e-((L:Int)-52)).toNat=z.natAbs*2^(52-L):=by
     apply pow_cancel (k:=K-(52-L));rw[Nat.mul_assoc,Nat.mul_assoc,←Nat.pow_add,←Nat.pow_add];have h3:(e-((L:Int)-52)).toNat+(K-(52-L))=(e+K).toNat:=by omega
     have h4:52-L+(K-(52-L))=K:=by omega
     rw[h3,h4,hsc]
    have hne:z.natAbs*2^(52-L)≠0:=Nat.mul_ne_zero hz0 (by have:=Nat.two_pow_pos (52-L);omega);have h5:=cut_exact .even s _ 0 hne;rw[h1,h2];simpa using h5
   ·have h1:(e-((L:Int)-52)).toNat=0:=by omega
    have h2:m=z.natAbs*2^(52-L)*2^(((L:Int)-52)-e).toNat:=by
     apply pow_cancel (k:=(e+K).toNat);rw[hsc,Nat.mul_assoc,Nat.mul_assoc,←Nat.pow_add,←Nat.pow_add];have h3:52-L+((((L:Int)-52)-e).toNat+(e+K).toNat)=K:=by omega
     rw[h3]
    have hne:z.natAbs*2^(52-L)≠0:=Nat.mul_ne_zero hz0 (by have:=Nat.two_pow_pos (52-L);omega);rw[h1,Nat.pow_zero,Nat.mul_one]
    conv=>lhs;rw[h2]
    exact cut_exact .even s _ _ hne
  have hlo:2^52≤z.natAbs*2^(52-L):=by
   have h1:2^L≤z.natAbs:=hLn▸Nat.log2_self_le hz0;have h2:2^52=2^L*2^(52-L):=by rw[←Nat.pow_add];congr 1;omega
   rw[h2];exact Nat.mul_le_mul_right _ h1
  have hhi:z.natAbs*2^(52-L)<2^53:=by
   have h1:z.natAbs<2^(L+1):=hLn▸Nat.lt_log2_self;have h2:2^53=2^(L+1)*2^(52-L):=by rw[←Nat.pow_add];congr 1;omega
   rw[h2];exact Nat.mul_lt_mul_of_pos_right h1 (Nat.two_pow_pos _)
  generalize hq:z.natAbs*2^(52-L)=q at *
  have hrung:double.nearest s m e=double.word s ((L+1022)*2^52+q):=by
   unfold Format.nearest;rw[if_neg h0];simp only[show double.fractionBits=52 from rfl,leastPlace,binade,infRung];rw[hlast,hkept]
   congr 1
   have:((L:Int)-52 - -1074).toNat=L+1022:=by omega
   rw[this,Nat.min_eq_left];omega
  refine⟨q,(L:Int)-52,?_,⟨⟨K,by omega,?_⟩,h.2⟩⟩
  ·rw[hrung,read_word s _ (by omega) (by omega)]
   congr 1<;>omega
  ·rw[←hq,Nat.mul_assoc,←Nat.pow_add]
   congr 2;omega
def Rep(b:Nat)(z:Int): Prop:=∃s m e,double.read b = .number s m e∧Is s m e z
theorem Is.write{s:Bool}{m:Nat}{e z:Int}(h:Is s m e z)(hz:z.natAbs<2^53): Rep (double.write (.number s m e)) z :=
 let ⟨m',e',h1,h2⟩:=read_nearest h hz
 ⟨s,m',e',h1,h2⟩
theorem signed_val{s:Bool}{m:Nat}{e z:Int}(h:Is s m e z)(K:Nat)(hK:0≤e+K): signed s m (e+K).toNat=z*2^K:=by
 have h1:=h.scale K hK;unfold signed;rw[Nat.shiftLeft_eq,h1];by_cases h0:z=0
 ·subst h0;simp
 ·rw[h.2 h0];by_cases hn:z<0
  ·have hz:(z.natAbs:Int) = -z:=by omega
   simp only[decide_eq_true hn,if_true,Int.natCast_mul,hz,Int.natCast_pow];rw[Int.neg_mul,Int.neg_neg];rfl
  ·have hz:(z.natAbs:Int)=z:=by omega
   simp only[decide_eq_false hn,Bool.false_eq_true,if_false,Int.natCast_mul,hz,Int.natCast_pow];rfl
theorem signed_scale(s:Bool)(m a k:Nat): signed s m (a+k)=signed s m a*2^k:=by
 unfold signed;cases s<;>simp[Nat.shiftLeft_eq,Nat.pow_add]
 ·rw[Int.mul_assoc]
 ·rw[Int.neg_mul,Int.mul_assoc]
theorem two_pow_ne(k:Nat): (2:Int)^k≠0:=by
 have:(0:Int)<2^k:=Int.pow_pos (by decide);omega
theorem Rep.sum{x:Nat}{a b:Int}{dy:Datum}(hx:Rep x a)(hy:∃t n j,dy = .number t n j∧Is t n j b)(hz:(a+b).natAbs<2^53):
  ∃r,((double.read x).sum dy).map double.write=some r∧Rep r (a+b):=by
 obtain⟨s,m,i,h1,hA⟩:=hx;obtain⟨t,n,j,rfl,hB⟩:=hy;refine⟨_,by rw[h1];rfl,?_⟩;refine Is.write ?_ hz;obtain⟨K,hK⟩:∃K:Nat,K=i.natAbs+j.natAbs:=⟨_,rfl⟩;have ea:=signed_val hA K (by omega);have eb:=signed_val hB K (by omega);generalize hbase:min i j=base at *;have sa:(i+K).toNat=(i-base).toNat+(base+K).toNat:=by omega
 have sb:(j+K).toNat=(j-base).toNat+(base+K).toNat:=by omega
 rw[sa,signed_scale] at ea;rw[sb,signed_scale] at eb;generalize hT:signed s m (i-base).toNat+signed t n (j-base).toNat=T at *
 have hsum:T*2^(base+K).toNat=(a+b)*2^K:=by
  rw[←hT,Int.add_mul,ea,eb,Int.add_mul]
 have hpos1:(0:Int)<2^(base+K).toNat:=Int.pow_pos (by decide);have hpos2:(0:Int)<2^K:=Int.pow_pos (by decide);refine⟨⟨K,by omega,?_⟩,fun hne=>?_⟩
 ·have:=congrArg Int.natAbs hsum;rw[Int.natAbs_mul,Int.natAbs_mul,Int.natAbs_pow,Int.natAbs_pow] at this;exact this
 ·have hT0:T≠0:=by
   intro h0;rw[h0,Int.zero_mul] at hsum;exact hne ((Int.mul_eq_zero.1 hsum.symm).resolve_right (two_pow_ne K))
  rw[if_neg hT0]
  have:T<0↔a+b<0:=by
   constructor
   ·intro h;have:T*2^(base+K).toNat<0:=Int.mul_neg_of_neg_of_pos h hpos1;rw[hsum] at this;exact Int.not_le.1 fun hc=>absurd (Int.mul_nonneg hc (Int.le_of_lt hpos2)) (by omega)
   ·intro h;have:(a+b)*2^K<0:=Int.mul_neg_of_neg_of_pos h hpos2;rw[←hsum] at this;exact Int.not_le.1 fun hc=>absurd (Int.mul_nonneg hc (Int.le_of_lt hpos1)) (by omega)
  exact decide_eq_decide.2 this
theorem Rep.add{x y:Nat}{a b:Int}(hx:Rep x a)(hy:Rep y b)(hz:(a+b).natAbs<2^53): ∃r,double.add x y=some r∧Rep r (a+b) :=
 Rep.sum hx hy hz
theorem Is.opposite{s:Bool}{m:Nat}{e z:Int}(h:Is s m e z): Is (!s) m e (-z):=by
 obtain⟨⟨K,hK,he⟩,hs⟩:=h;refine⟨⟨K,hK,by rw[he,Int.natAbs_neg]⟩,fun hne=>?_⟩;have:=hs (by omega);rw[this];by_cases h1:z<0
 ·rw[decide_eq_true h1,decide_eq_false (by omega)];rfl
 ·rw[decide_eq_false h1,decide_eq_true (by omega)];rfl
theorem Rep.sub{x y:Nat}{a b:Int}(hx:Rep x a)(hy:Rep y b)(hz:(a-b).natAbs<2^53): ∃r,double.sub x y=some r∧Rep r (a-b):=by
 obtain⟨t,n,j,h2,hB⟩:=hy;have:=Rep.sum (dy:=(double.read y).opposite) hx ⟨!t,n,j,by rw[h2];rfl,hB.opposite⟩ (by rw[←Int.sub_eq_add_neg];exact hz)
 rwa [←Int.sub_eq_add_neg] at this
def rd(neg:Bool)(rung:Nat): Datum :=
 if rung<double.binade then .number neg rung double.leastPlace
 else if rung<double.infRung then .number neg (double.binade+rung%double.binade) (double.leastPlace+(rung / double.binade-1:Nat))
 else if rung=double.infRung then .infinity neg
 else .nan neg (rung-double.infRung)
theorem read_rd(w:Nat): double.read w=rd (w / 2^63%2==1) (w%2^63):=rfl
theorem Rep.neg{x:Nat}{a:Int}(hx:Rep x a): Rep (x ^^^ 2^63) (-a):=by
 obtain⟨s,m,e,h1,hA⟩:=hx;refine⟨!s,m,e,?_,hA.opposite⟩;have hm:(x ^^^ 2^63)%2^63=x%2^63:=by rw[Nat.xor_mod_two_pow];simp
 have hd:((x ^^^ 2^63) / 2^63%2==1) = !(x / 2^63%2==1):=by
  rw[Nat.xor_div_two_pow,show 2^63 / 2^63=1 by decide];generalize x / 2^63=q;have h2:=Nat.xor_mod_two_pow (a:=q) (b:=1) (n:=1);have h3:q%2=0∨q%2=1:=by omega
  have h4:(q ^^^ 1)%2=(q%2) ^^^ 1:=by simpa using h2
  rw[h4];rcases h3 with h3|h3<;>rw[h3]<;>decide
 rw[read_rd] at h1 ⊢;rw[hm,hd];generalize (x / 2^63%2==1)=sg at *;generalize x%2^63=rung at *;unfold rd at h1 ⊢;split at h1
 ·rename_i hc
  rw[if_pos hc];cases h1;rfl
 ·rename_i hc
  rw[if_neg hc];split at h1
  ·rename_i hc2
   rw[if_pos hc2];cases h1;rfl
  ·split at h1<;>cases h1
theorem Rep.order{x y:Nat}{a b:Int}(hx:Rep x a)(hy:Rep y b): double.order x y=some (compare a b):=by
 obtain⟨s,m,i,h1,hA⟩:=hx;obtain⟨t,n,j,h2,hB⟩:=hy;unfold Format.order;rw[h1,h2];unfold Datum.order;simp only
 congr 1
 obtain⟨K,hK⟩:∃K:Nat,K=i.natAbs+j.natAbs:=⟨_,rfl⟩;have ea:=signed_val hA K (by omega);have eb:=signed_val hB K (by omega);generalize hbase:min i j=base at *;have sa:(i+K).toNat=(i-base).toNat+(base+K).toNat:=by omega
 have sb:(j+K).toNat=(j-base).toNat+(base+K).toNat:=by omega
 rw[sa,signed_scale] at ea;rw[sb,signed_scale] at eb;generalize signed s m (i-base).toNat=p at *;generalize signed t n (j-base).toNat=q at *;have hpos1:(0:Int)<2^(base+K).toNat:=Int.pow_pos (by decide);have hpos2:(0:Int)<2^K:=Int.pow_pos (by decide)
 have hlt:∀u v u' v':Int,u*2^(base+K).toNat=u'*2^K→v*2^(base+K).toNat=v'*2^K→(u<v↔u'<v'):=by
  intro u v u' v' e1 e2;have k1:u*2^(base+K).toNat<v*2^(base+K).toNat↔u<v:=Int.mul_lt_mul_right hpos1;have k2:u'*2^K<v'*2^K↔u'<v':=Int.mul_lt_mul_right hpos2;rw[e1,e2] at k1;exact k1.symm.trans k2
 have l1:=hlt _ _ _ _ ea eb;have l2:=hlt _ _ _ _ eb ea;rcases Int.lt_trichotomy a b with h|h|h
 ·rw[Int.compare_eq_lt.2 h,Int.compare_eq_lt.2 (l1.2 h)]
 ·have:p=q:=by omega
  rw[Int.compare_eq_eq.2 h,Int.compare_eq_eq.2 this]
 ·rw[Int.compare_eq_gt.2 h,Int.compare_eq_gt.2 (l2.2 h)]
end Fl
