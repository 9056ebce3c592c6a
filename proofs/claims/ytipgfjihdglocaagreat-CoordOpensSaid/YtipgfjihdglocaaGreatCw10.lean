import Derived.Test.YtipgfjihdglocaaGreatCw2
import Derived.Test.YtipgfjihdglocaaGreatCw4
import Derived.Test.YtipgfjihdglocaaGreatCw0
import Derived.Test.YtipgfjihdglocaaGreatCw6
set_option linter.unusedSimpArgs false
set_option linter.unusedVariables false
set_option maxRecDepth 100000
set_option maxHeartbeats 64000000
namespace Go.Proofs.YtipgfjihdglocaaGreat
open Go.RowKit
def encB(x:UInt8): List Value:=[.int .u8 x.toNat]
def encN(n:Int): List Value:=[.int .i64 n]
theorem infoU8:(Tryz.prog.info? 5).map (fun i=>(i.zero,i.size,i.bytes))=some (some (.int .u8 0),1,1):=by kernel_rfl
theorem encB_len(x:UInt8): (encB x).length=1:=rfl
theorem encN_len(x:Int): (encN x).length=1:=rfl
theorem encB_one(x:UInt8): ∀u∈encB x,u.oneCell'=true:=by intro u hu;simp[encB] at hu;subst hu;rfl
def WriterAt(base B:Nat)(W:World)(vb:Value)(bs:List UInt8): Prop :=
 base≤B∧W.heap[B]? = some (.cells #[vb] 147)∧OwnAt base 5 1 encB W vb bs
theorem octFits_any(n:Int)(w:World): Calls Tryz.prog 146 #[.int .i64 n] w fun e w'=>e = .returned (.bool (Oc.fitsN n))∧w=w':=by
 go_enter Tryz.func146,Tryz.ntmps146;go_wp2
 all_goals
  go_ret;refine⟨?_,rfl⟩;exact congrArg (fun b=>Ending.returned (Value.bool b)) (by unfold Oc.fitsN;grind)
theorem cell_of_heap{W:World}{b o:Nat}{c:Array Value}{t:TypeId}{f:Nat×Nat}(h:W.heap[b]? = some (.cells c t f)): W.cell? ⟨b,o,none⟩=c[o]? :=by
 unfold World.cell?;rw[h];simp
theorem frozen_of_heap{W:World}{b o:Nat}{c:Array Value}{t:TypeId}(h:W.heap[b]? = some (.cells c t)): W.frozen? ⟨b,o,none⟩=false:=by
 unfold World.frozen?;rw[h];simp
theorem wpList_ownG{α:Type}{e:TypeId}{k:Nat}{enc:α→List Value}{w0:World}{v:Value}{l:List α}{P:Program}{ops:Array Oper}{rest:List Oper}{o:Oper}{a:Act}{Q:Exit→Act→World→Prop}{W:World}
  (hgd:o.guard=none) (s x:Operand) (t:TypeId) (z:Value) (bytes c0 b:Nat) (l2:List α)
  (ho:o.op = .call { callee:=.builtin .append,args:=#[s,x],argTypes:=#[t,t] })
  (ht:P.underlying t=some (.slice e)) (hinfo:(P.info? e).map (fun i=>(i.zero,i.size,i.bytes))=some (some z,k,bytes)) (hz:z.cells.size=k) (hk:0<k)
  (henc:∀x,(enc x).length=k) (hone:∀x,∀u∈enc x,u.oneCell'=true)
  (hs:a.eval s=v) (hown:OwnAt w0.heap.size e k enc W v l) (hg:Grew w0 W)
  (hx:a.eval x = .slice (some ⟨b,0,none⟩) l2.length c0) (hb:∀j u,(l2.flatMap enc)[j]? = some u→W.cell? ⟨b,j,none⟩=some u)
  (hlen:l.length+l2.length≤1000000) (hby:bytes≤1000)
  (h:∀v' R N,OwnAt w0.heap.size e k enc (w0.more R N) v' (l++l2)→(∀q,q<W.heap.size→v.ownBlock≠some q→(w0.more R N).heap[q]? = W.heap[q]?)→wpList P ops Q rest (a.put o.dst v') (w0.more R N)):wpList P ops Q (o::rest) a W:=by
 obtain⟨i,hi,hz0,hz1,hz2⟩:=info_parts hinfo;have hmul:(l.length+l2.length)*bytes≤1000000*1000:=Nat.mul_le_mul hlen hby;refine wpList_append_own W hgd s x t ho w0.heap.size e i z k bytes ht hi hz0 hz1 hz2 hz hk v l.length (l.flatMap enc) hs hown ⟨b,0,none⟩ l2.length c0 (l2.flatMap enc) hx (flat_length henc l2) ?_ ?_ (by unfold maxLen;omega) (by omega) hg.below.size ?_
 ·intro j u hj;rw[addr_add_zero];exact hb j u hj
 ·intro u hu;obtain⟨y,_,hy⟩:=List.mem_flatMap.1 hu;exact hone y u hy
 ·intro v' w' h1 h2 _;have hblk:=h2.block;obtain⟨R,N,rfl⟩:=hg.grown h2 (fun q hq=>OwnAt.lt hown q hq);refine h v' R N ?_ (fun q hq hne=>hblk q hq (fun e=>hne e.symm));unfold OwnAt;rw[List.length_append,List.flatMap_append];exact h1
def Safe(base b:Nat)(W:World): Prop:=b<base∨∃c t f,W.heap[b]? = some (.cells c t f)∧t≠5
theorem Safe.own{base b:Nat}{W:World}{vb:Value}{bs:List UInt8}(h:Safe base b W)(ho:OwnAt base 5 1 encB W vb bs): vb.ownBlock≠some b:=by
 intro e;obtain⟨h1,h2⟩:=ho;rcases h2 with ⟨rfl,_⟩|⟨g,cap,cur,rfl,hb,hh,_⟩
 ·cases e
 ·cases e;rcases h with h|⟨c,t,f,hc,ht⟩
  ·exact absurd h (by show ¬(g<base);omega)
  ·rw[show(Addr.block ⟨g,0,none⟩)=g from rfl] at hc;rw[hh] at hc;cases hc;exact ht rfl
theorem RowsAt.sameBlock{α:Type}{k:Nat}{enc:α→List Value}{W W':World}{v:Value}{l:List α}(h:RowsAt k enc W v l)(hb:∀b off,(∃n c,v = .slice (some ⟨b,off,none⟩) n c)→W'.heap[b]? = W.heap[b]?): RowsAt k enc W' v l:=by
 obtain⟨a,cap,rfl,hm,hl⟩:=h;refine⟨a,cap,rfl,hm,fun hne=>?_⟩;obtain⟨b,off,rfl,hx⟩:=hl hne;refine⟨b,off,rfl,fun i x hi j u hu=>?_⟩;rw[←hx i x hi j u hu];unfold World.cell?;rw[hb b off ⟨_,_,rfl⟩]
theorem Safe.sameBlock{base b:Nat}{W W':World}(h:Safe base b W)(hb:W'.heap[b]? = W.heap[b]?): Safe base b W':=by
 rcases h with h|⟨c,t,f,hc,ht⟩
 ·exact .inl h
 ·exact .inr ⟨c,t,f,by rw[hb];exact hc,ht⟩
theorem heap_set_self{W:World}{B:Nat}{vb v':Value}{t:TypeId}(h:W.heap[B]? = some (.cells #[vb] t)): (W.setCell ⟨B,0,none⟩ v').heap[B]? = some (.cells #[v'] t):=by
 unfold World.setCell;simp only[Array.getElem?_modify,if_true,h];rfl
theorem heap_set_other{W:World}{B b:Nat}{v':Value}(h:B≠b): (W.setCell ⟨B,0,none⟩ v').heap[b]? = W.heap[b]? :=by
 unfold World.setCell;simp only[Array.getElem?_modify,h,if_false]
theorem Grew.setBehind{w0 W:World}(g:Grew w0 W){B:Nat}(hB:w0.heap.size≤B)(v':Value): Grew w0 (W.setCell ⟨B,0,none⟩ v') :=
 Grew.ofBelow (g.below.setCell hB _)
theorem OwnAt.sameBlock{α:Type}{base:Nat}{e:TypeId}{k:Nat}{enc:α→List Value}{W W':World}{v:Value}{l:List α}(h:OwnAt base e k enc W v l)(hb:∀b,v.ownBlock=some b→W'.heap[b]? = W.heap[b]?): OwnAt base e k enc W' v l:=by
 obtain⟨h1,h2⟩:=h;refine⟨h1,?_⟩;rcases h2 with h|⟨g,cap,cur,rfl,hg,hh,r⟩
 ·exact .inl h
 ·exact .inr ⟨g,cap,cur,rfl,hg,by rw[hb g rfl];exact hh,r⟩
theorem WriterAt.safe{base B:Nat}{W:World}{vb:Value}{bs:List UInt8}(h:WriterAt base B W vb bs): Safe base B W:=.inr ⟨_,_,_,h.2.1,by decide⟩
theorem own_some{α:Type}{base:Nat}{e:TypeId}{k:Nat}{enc:α→List Value}{w:World}{v:Value}{l:List α}(h:OwnAt base e k enc w v l)(hne:l≠[]): ∃b n cap,v = .slice (some ⟨b,0,none⟩) n cap:=by
 rcases h.form with ⟨_,h⟩|⟨b,cap,h,_⟩
 ·exact absurd h hne
 ·exact⟨b,_,cap,h⟩
theorem heap_alloc_old{W:World}{b:Nat}{x:Obj}(h:W.heap[b]? = some x)(o:Obj): (W.alloc o).heap[b]? = some x:=by
 have hb:=(Array.getElem?_eq_some_iff.1 h).1;show(W.heap.push o)[b]? = some x;rw[Array.getElem?_push_lt hb];rw[←h,Array.getElem?_eq_getElem hb]
theorem be_cells(x:Int): (Oc.be x).flatMap encB=[.int .u8 (x%4294967296 / 16777216),.int .u8 (x%4294967296 / 65536%256),.int .u8 (x%4294967296 / 256%256),.int .u8 (x%256)]:=by
 have h0:0≤x%4294967296:=Int.emod_nonneg _ (by decide);have h1:x%4294967296<4294967296:=Int.emod_lt_of_pos _ (by decide)
 have e:∀z:Int,0≤z→z<256→((UInt8.ofNat z.toNat).toNat:Int)=z:=by
  intro z hz hz2;rw[UInt8.toNat_ofNat'];omega
 unfold Oc.be;simp only[List.flatMap_cons,List.flatMap_nil,encB,List.append_nil,List.cons_append,List.nil_append];rw[e _ (by omega) (by omega),e _ (by omega) (by omega),e _ (by omega) (by omega),e _ (by omega) (by omega)];have h2:x%4294967296%256=x%256:=by omega
 rw[h2]
theorem be_new(W:World)(x:Int)(t:TypeId)(b:Nat)(c:Array Value)(hb:b=W.heap.size)(hc:c=#[.int .u8 (x%4294967296 / 16777216),.int .u8 (x%4294967296 / 65536%256),.int .u8 (x%4294967296 / 256%256),.int .u8 (x%256)]): ∀j u,((Oc.be x).flatMap encB)[j]? = some u→(W.alloc (.cells c t)).cell? ⟨b,j,none⟩=some u:=by
 subst hc;intro j u hu;rw[be_cells] at hu;rw[new_cells W _ t b hb j];simpa using hu
theorem insNone_any(fv:Value)(w:World): Calls Tryz.prog 244 #[.slice none 0 0,.int .i64 0,.int .i64 0,fv] w (fun e w'=>e = .returned (.tuple #[])∧w'=w):=by
 go_enter Tryz.func244,Tryz.ntmps244;go_wp2
 go_loopg [8] 0 (fun gg s8 wr=>s8 = .int .i64 1∧wr=w)
 case atStart=>exact⟨rfl,rfl⟩
 case round =>
  obtain⟨rfl,rfl⟩:=hrel;go_wp2;refine bodyPost_end (v:=.tuple #[]) (by simp[results,Tryz.results244,go_sem]) rfl ?_;exact⟨rfl,rfl⟩
theorem pdqNone_any(k:Int)(fv:Value)(w:World): Calls Tryz.prog 236 #[.slice none 0 0,.int .i64 0,.int .i64 0,.int .i64 k,fv] w (fun e w'=>e = .returned (.tuple #[])∧w'=w):=by
 go_enter Tryz.func236,Tryz.ntmps236;go_wp2
 go_loopg [1,2,3] 0 (fun gg s1 s2 s3 wr=>s1 = .int .i64 0∧s2 = .int .i64 0∧wr=w)
 case atStart=>exact⟨rfl,rfl,rfl⟩
 case round =>
  obtain⟨rfl,rfl,rfl⟩:=hrel
  go_wp2_with (go_at_call 244;refine(insNone_any _ _).mono ?_;rintro e w1 ⟨rfl,rfl⟩)
  refine bodyPost_ret (v:=.tuple #[]) (by simp[results,Tryz.results236,go_sem]) rfl ?_;exact⟨rfl,rfl⟩
theorem sortNone_any(fv:Value)(w:World): Calls Tryz.prog 222 #[.slice none 0 0,fv] w (fun e w'=>e = .returned (.tuple #[])∧w'=w):=by
 go_enter Tryz.func222,Tryz.ntmps222
 go_wp2_with (first
  | (go_at_call 135;refine(Tryz.bits_Len 0 _ (by decide) (by decide)).mono ?_;rintro e w1 ⟨rfl,rfl⟩)
  | (go_at_call 236;refine(pdqNone_any _ _ _).mono ?_;rintro e w1 ⟨rfl,rfl⟩))
 refine bodyPost_end (v:=.tuple #[]) (by simp[results,Tryz.results222,go_sem]) rfl ?_;exact⟨rfl,rfl⟩
end Go.Proofs.YtipgfjihdglocaaGreat
