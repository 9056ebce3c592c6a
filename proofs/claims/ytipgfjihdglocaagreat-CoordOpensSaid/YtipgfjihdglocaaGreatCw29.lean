import Derived.Test.YtipgfjihdglocaaGreatCw22
import Derived.Test.YtipgfjihdglocaaGreatCw21
import Derived.Test.YtipgfjihdglocaaGreatCw11
set_option linter.unusedSimpArgs false
set_option linter.unusedVariables false
set_option maxRecDepth 100000
set_option maxHeartbeats 64000000
namespace Go.Proofs.YtipgfjihdglocaaGreat
open Go.RowKit Ga
def passL1:List Gr.Nd:=[⟨0,0,[],[],1,List.replicate 8 0⟩,⟨1,2,[0],[],1,List.replicate 8 0⟩]
def Pass1Gives(w:World)(e:Ending)(w':World): Prop:=∃v,e = .returned v∧NodesAt w' v passL1∧Grew w w'
theorem pass1O_any(w:World): Calls Tryz.prog 21 #[.int .i64 1] w fun e w'=>∃v lc,e = .returned v∧NodesOwn 0 w' v lc∧NodesIn 0 w' lc passL1∧Grew w w':=by
 go_enter Tryz.func21,Tryz.ntmps21;go_wp2;have hm1:max (1:Int) 1=1:=rfl;have hm2:min (1:Int) 3=1:=rfl;simp only[hm1,hm2]
 go_loopg [11] 8 (fun gg s11 wr=>∃g:Nat,g≤8∧8-g≤gg∧s11 = .int .i64 g∧wr.heap[w.heap.size]? = some (.cells (nodeArr 0 0 (.slice none 0 0) (.slice none 0 0) 1 (List.replicate 8 0)) 52)∧Hid (Grew w wr))
 case atStart =>
  refine⟨0,by omega,by omega,rfl,?_,hY ?_⟩
  ·have hna:nodeArr 0 0 (.slice none 0 0) (.slice none 0 0) 1 (List.replicate 8 0)=#[.int .i64 0,.int .i64 0,.slice none 0 0,.slice none 0 0,.int .i64 1,.int .i64 0,.int .i64 0,.int .i64 0,.int .i64 0,.int .i64 0,.int .i64 0,.int .i64 0,.int .i64 0]:=by
    simp[nodeArr,List.replicate_succ]
   rw[hna];exact heap_new_at w _ _ rfl
  ·repeat (first|exact(Grew.refl _).alloc _|refine Grew.set ?_ (Nat.le_refl _) _)
 case round =>
  obtain⟨g,hg8,hgg,rfl,hbx,HGR⟩:=hrel;have hp:=Pre.mk (heap_lt hbx);have HBX:=hY hbx;by_cases hlt:g<8
  ·have hset:(List.replicate 8 (0:Int)).set g 0=List.replicate 8 0:=by
    have:g=0∨g=1∨g=2∨g=3∨g=4∨g=5∨g=6∨g=7:=by omega
    rcases this with rfl|rfl|rfl|rfl|rfl|rfl|rfl|rfl<;>rfl
   have hc5:=cell_of (o:=5+g) hbx;rw[nodeArr_get _ _ _ _ _ _ g (by simp;omega)] at hc5;have hf5:=frozen_of (o:=5+g) hbx;have HSET:=hY hset;have hne:(1:Int)≠0:=by decide
   have htm:Int.tmod (g:Int) 1=0:=Int.tmod_one _;clear hset hbx;go_wp2
   go_roundg (8-(g+1))
   case measure=>omega
   case rel =>
    refine⟨g+1,by omega,by omega,by go_num,?_,hY (HGR.o.set (Nat.le_refl _) _)⟩;rw[show(List.replicate 8 (0:Int))=(List.replicate 8 (0:Int)).set g 0 from HSET.o.symm,←nodeArr_set];exact set_self HBX.o
  ·obtain rfl:g=8:=by omega
   have a0:=cell_of (o:=0) hbx;have a1:=cell_of (o:=1) hbx;have a2:=cell_of (o:=2) hbx;have a3:=cell_of (o:=3) hbx;have a4:=cell_of (o:=4) hbx;have a5:=cell_of (o:=5) hbx;have a6:=cell_of (o:=6) hbx;have a7:=cell_of (o:=7) hbx;have a8:=cell_of (o:=8) hbx;have a9:=cell_of (o:=9) hbx;have a10:=cell_of (o:=10) hbx;have a11:=cell_of (o:=11) hbx;have a12:=cell_of (o:=12) hbx;simp[nodeArr,List.replicate_succ] at a0 a1 a2 a3 a4 a5 a6 a7 a8 a9 a10 a11 a12;clear hbx;go_wp2;go_ret;refine⟨_,[⟨0,0,none,0,0,none,0,0,1,0,0,0,0,0,0,0,0⟩,⟨1,2,some ⟨wr.heap.size+1,0,none⟩,1,1,none,0,0,1,0,0,0,0,0,0,0,0⟩],rfl,OwnAt.fresh rfl rfl rfl (by simp[maxLen]) encNd_len (by simp[World.size_alloc]) (Nat.zero_le _) rfl,?_,HGR.o.trans gw⟩;have hi:OwnAt 0 3 1 encN (((wr.alloc (.cells #[.int .i64 1,.int .i64 2,.slice (some ⟨wr.heap.size+1,0,none⟩) 1 1,.slice none 0 0,.int .i64 1,.int .i64 0,.int .i64 0,.int .i64 0,.int .i64 0,.int .i64 0,.int .i64 0,.int .i64 0,.int .i64 0] 52))).alloc (.cells #[.int .i64 0] 3)) (.slice (some ⟨wr.heap.size+1,0,none⟩) 1 1) [0]:=OwnAt.fresh (c:=[.int .i64 0]) rfl rfl rfl (by decide) encN_len (by simp[World.size_alloc]) (Nat.zero_le _) rfl;exact⟨⟨⟨rfl,rfl,RowsAt.nil,RowsAt.nil,rfl,rfl,Nat.zero_le _⟩,OwnAt.nil _,OwnAt.nil _⟩,⟨⟨rfl,rfl,(OwnAt.grew hi ((Grew.refl _).alloc _)).rows encN_len,RowsAt.nil,rfl,rfl,Nat.le_refl _⟩,OwnAt.grew hi ((Grew.refl _).alloc _),OwnAt.nil _⟩,trivial⟩
theorem pass1_any(w:World): Calls Tryz.prog 21 #[.int .i64 1] w (Pass1Gives w) :=
 (pass1O_any w).mono fun _ _ ⟨v,lc,h1,h2,h3,h4⟩=>⟨v,h1,h3.at h2,h4⟩
theorem pass1_right:Gr.RightR passL1:=by
 refine⟨by decide,?_,by decide,?_⟩
 ·intro i n h
  match i with
  |0 =>
   cases h;refine⟨by decide,by decide,rfl,by decide,by decide,by decide,by decide,by decide,by decide,by decide,by decide,by decide,by decide,by decide,by decide,?_⟩;intro k f hk
   cases hk
  |1 =>
   cases h;refine⟨by decide,by decide,rfl,by decide,by decide,by decide,by decide,by decide,by decide,by decide,by decide,by decide,by decide,by decide,by decide,?_⟩;intro k f hk
   match k with
   |0 =>
    cases hk
    exact⟨⟨0,_,rfl,rfl,by decide⟩,by simp⟩
   | k+1=>cases hk
  | i+2=>cases h
 ·intro n hn;simp only[passL1,List.mem_cons,List.not_mem_nil,or_false] at hn;rcases hn with rfl|rfl<;>rfl
theorem pass1_small:Small passL1:=by unfold Small;decide
theorem pass1_tasks:(tasksOf passL1).length=2:=by decide
end Go.Proofs.YtipgfjihdglocaaGreat
