/- part 7 -/
import Derived.Test.YtfkjjoglnmeciaaGreatDoorMaf
import Derived.Lib.SlKeysI
set_option maxRecDepth 100000
set_option maxHeartbeats 16000000
namespace Go.Proofs.YtfkjjoglnmeciaaGreatDoor
open Go.Lib (hid)
section
open Go.RowKit Go.Maps
structure CX where
 w0:World
 a:DA
 x:SA
 gw:Nat
 cs:Array Value
section
variable {c:CX} {w w':World} {S:Fp} {lk:Bool} {last:Option Addr} {cur:Nat->Nat} {T:Nat}
end
structure TX where
 words:Nat
 inner:Nat
 own:Nat
 freed:Nat
 held:Nat
 cover:Nat
 outside:Bool
 surplus:Bool
 open_ : Bool
 mode:Nat
 marks:Value
 ids:Nat
 tail:Value
section
variable {c:CX} {g:Nat} {w w':World} {S:Fp} {t:TX} {D:DataW Unit} {n:Nat} {cur:Nat->Nat} {T:Nat}
end
end
section
open Go.RowKit Go.Maps Go.Sort Go.Shelf
abbrev encI (x:Int):Value := .int .i64 x
theorem w0y {x y:Int} (h:encI x=encI y):x=y:=by simpa [encI] using h
theorem y7d:Keyed Tryz.prog 3:=int_keyed Tryz.underlying3
theorem y9i {H:Type} (n l Bm b nn:Nat) (D0:DataW H) {R:Value->Option (DataW H × List MemPlace)} (J:List Int->World->Prop)
  (hY:∀ pre x W,J pre W->pre.length < Maps.size D0->YieldAt Fence.wide (n - 1) Tryz.prog l #[encI x] W fun e W'=>e=.returned (.bool true)/\J (pre++[x]) W'/\KeepsWalks W W')
  (W:World) (hJ:AbidesFrom W.heap.size J) (hm:W.cell? ⟨Bm,0,none⟩=some (.map (some b))) (hown:W.ownsMap Tryz.prog 3 R b nn D0) (h0:J [] W) (hn:1<=n) :
  CallsIn Fence.wide n Tryz.prog 317 #[.func (.yield l) #[] #[],.pointer (some ⟨Bm,0,none⟩)] W fun e W'=>(∃ v,e=.returned v)/\∃ ss:List Int,ss.Perm (intKeys D0)/\J ss W':=by
 have Gh:Fence.wide.fn 317:=trivial;have Gl:Fence.wide.round=none:=rfl;refine callsIn_of_wp Tryz.func317 rfl Gh ?_ Gl;simp only [Tryz.ntmps317,List.size_toArray,List.length_cons,List.length_nil,Nat.reduceAdd,Nat.reduceSub,Array.replicate_succ,Array.replicate_zero,List.push_toArray,List.append_toArray,List.nil_append,List.cons_append];gi_wp2_with (first
  | (gi_at_range;refine wpListIn_range_own _ rfl _ 335 rfl 3 336 y7d Tryz.underlying335 _ b nn _ rfl hown ?_;intro w0 hrg0 hg0 hs0)
  | gi_in)
 go_frame
 gi_loopw [3] (fun _ wr=>∃ (Ga:Lit->Bool) (Gd:Nat) (ss:List Int),wr.ranges Tryz.prog 3 R b W.heap.size nn D0 Ga Gd/\ss.length+Gd<=Maps.size D0/\CollectedI D0 Ga ss/\J ss wr)
  (fun _ wr=>wr.rangeLeft b W.heap.size)
 case atStart =>
  exact ⟨_,_,[],hrg0,by simp,CollectedI.start D0,hJ [] W w0 none h0 hg0 (fun r e=>by cases e)⟩
 case round =>
  obtain ⟨Ga,Gd,ss,Ge,Gn,hC,Gf⟩:=hrel;gi_wp2_with (first
   | (gi_at_next;refine wpListIn_next_ranges _ rfl _ rfl 3 y7d R encI id (fun key kl hk=>by obtain ⟨x,hx,_⟩:=Maps.keyOf_i64 Tryz.underlying3 hk;exact ⟨x,hx⟩) (fun v _ _=>⟨v,rfl⟩) b W.heap.size nn _ _ _ rfl Ge ?_ ?_)
   | gi_in)
  ·intro hc0 hl0
   gi_wp2
   go_end0;exact ⟨⟨_,rfl⟩,ss,hC.perm hown y7d Tryz.underlying3 hl0,Gf⟩
  ·intro x c kl yd yp w2 cnt2 hkey hlk hv hat hrg2 hlt hg2 hs2 hen
   obtain ⟨x',ex,rfl,_⟩:=Maps.keyOf_i64 Tryz.underlying3 hkey;obtain rfl:x=x':=w0y ex;have Gi:J ss w2:=hJ ss wr w2 (some W.heap.size) Gf hg2 (fun r e=>by cases e;exact ⟨nL _,Ge.iter_walk⟩);obtain ⟨fn,Gm,Gc,Gg,hy,hR⟩:=hY ss x w2 Gi oM;clear hs2;gi_wp2
   refine hR.mono ?_;rintro e W3 ⟨rfl,Gj,Gk⟩;gi_wp2
   have Gb:=hrg2.of_walks Gk;go_roundw
   case rel=>exact ⟨_,cnt2,ss++[x],Gb,by simp;omega,hC.step hlk hat,Gj⟩
   case measure=>rw [Gb.left_eq,Ge.left_eq];exact hlt
theorem y4n {H:Type} (n Bm b nn:Nat) (D0:DataW H) {R:Value->Option (DataW H × List MemPlace)} (w:World) (hBm:Bm < w.heap.size)
  (hm:w.cell? ⟨Bm,0,none⟩=some (.map (some b))) (hown:w.ownsMap Tryz.prog 3 R b nn D0) (hn:1<=n) :
  SeqGives Fence.wide n Tryz.prog 317 #[.pointer (some ⟨Bm,0,none⟩)] encI (fun ss=>ss.Perm (intKeys D0)) (Maps.size D0) w:=fun l J W hW hJ hY h0=>by
 have Gb:W.ownsMap Tryz.prog 3 R b nn D0:=by
  have Gc:=hown.lt;obtain ⟨es,Ga,hb,Ft,hs,hD⟩:=hown;exact ⟨es,Ga,(hW.block b Gc).trans hb,Ft,hs,hD⟩
 exact y9i n l Bm b nn D0 J hY W hJ ((hW.cell (p:=⟨Bm,0,none⟩) hBm).trans hm) Gb h0 hn
theorem y9h (mb:Option Nat) (w:World) :
  Calls Tryz.prog 239 #[.map mb] w fun e w'=>e=.returned (.func (.func 317) #[] #[.pointer (some ⟨w.heap.size,0,none⟩)])/\w'=w.alloc (.cells #[.map mb] 335):=by
 go_enter Tryz.func239,Tryz.ntmps239
 go_wp2;go_ret;exact ⟨rfl,rfl⟩
def y0f : Code := (Code.region 2 #[{ dst := some 5, op := Op.assign (Operand.tmp 7), type := 3, pos := "iter.go:51", after := #[], guard := none }] false)
def y8p : Code := (Code.block 1 (Code.region 3 #[{ dst := some 8, op := Op.load (34) (Operand.tmp 2), type := 34, pos := "iter.go:52", after := #[], guard := none }, { dst := some 9, op := Op.move (Operand.tmp 5), type := 3, pos := "iter.go:52", after := #[], guard := none }, { dst := some 10, op := Op.buildSlice (34) 1 #[(0, Operand.tmp 9)], type := 34, pos := "iter.go:52", after := #[{ on := 1, ground := Ground.data }], guard := none }, { dst := some 11, op := Op.call { callee := Callee.builtin Builtin.append, args := #[Operand.tmp 8, Operand.tmp 10], argTypes := #[34, 34] }, type := 34, pos := "iter.go:52", after := #[{ on := 0, ground := Ground.data }, { on := 2, ground := Ground.data }], guard := none }, { dst := none, op := Op.store (34) (Operand.tmp 2) (Operand.tmp 11), type := 0, pos := "iter.go:52", after := #[{ on := 3, ground := Ground.data }, { on := 3, ground := Ground.chain }, { on := 0, ground := Ground.phase }, { on := 1, ground := Ground.phase }, { on := 2, ground := Ground.phase }, { on := 3, ground := Ground.phase }], guard := none }] false))
def z5p (fn:FuncId) (sv:Value) (Bs D:Nat) (st:LoopState) (pend:Option Code):Loop :=
 { state:=st,pending:=pend,fn,tmps:=#[.slice none 0 0,sv,.pointer (some ⟨Bs,0,none⟩),undef,.slice none 0 0,undef,sv,undef,undef,undef,undef,undef,undef],params:=#[7],assign:=y0f,body:=y8p,defers:=D }
structure x5e (w0:World) (fn:FuncId) (sv:Value) (Bs l D:Nat) (ss:List Int) (W:World):Prop where
 box:∃ v,W.heap[Bs]?=some (.cells #[v] (34) (0,0))/\W.ownsRow w0.heap.size (3) 1 v ss.length (ss.map encI)/\(v=.slice none 0 0↔ss=[])
 L:W.heap[l]?=some (.loop (z5p fn sv Bs D .ready none))
 K:W.heap[D]?=some (.deferred (some []))
 below:Blw w0 W
theorem x2t (w0:World) (fn:FuncId) (sv:Value) (Bs l D B:Nat) (hB:w0.heap.size<=B):AbidesFrom B (x5e w0 fn sv Bs l D):=fun s W W' row h hg hrow=>by
 have Ga:∀ r,row=some r->∃ o:Obj,W.heap[r]?=some o/\o.isWalk=true:=fun r e=>(hrow r e).2
 obtain ⟨v,hv,hr,hn⟩:=h.box;exact ⟨⟨v,(grownBy_keeps hg Ga hv rfl).trans hv,ownsRow_abides_a hr hg Ga,hn⟩,(grownBy_keeps hg Ga h.L rfl).trans h.L,(grownBy_keeps hg Ga h.K rfl).trans h.K,
  h.below.grown hg h.below.size (fun k e=>Nat.le_trans hB (hrow k e).1)⟩
theorem w0g (m:Nat) (w0:World) (fn:FuncId) (hfn:Fence.wide.fn fn) (sv:Value) (Bs l D:Nat) (hBl:Bs≠l) (hDl:D≠l) (hDB:D≠Bs) (h0B:w0.heap.size<=Bs) (h0l:w0.heap.size<=l)
  (N:Nat) (hN:N<=maxLen) (hNb:N * 8<=140737488355328) (ss:List Int) (x:Int) (W:World) (h:x5e w0 fn sv Bs l D ss W) (hlen:ss.length < N) :
  YieldAt Fence.wide m Tryz.prog l #[encI x] W fun e W'=>e=.returned (.bool true)/\x5e w0 fn sv Bs l D (ss++[x]) W'/\KeepsWalks W W':=by
 have Gh:(34:Nat)≠3:=by decide
 obtain ⟨i0,hi,G7,G8,G9⟩:=info_parts y4l;obtain ⟨v,hv,Gi,_⟩:=h.box;refine ⟨fn,#[.slice none 0 0,sv,.pointer (some ⟨Bs,0,none⟩),undef,.slice none 0 0,undef,sv,encI x,undef,undef,undef,undef,undef],y0f,y8p,by simpa [z5p] using run_yield (P:=Tryz.prog) (args:=#[encI x]) h.L rfl,roundIn_of_wpIn hfn ?_⟩;have hl:l < W.heap.size:=(Array.getElem?_eq_some_iff.1 h.L).1;have G0:=run_beginRound (P:=Tryz.prog) h.L rfl;obtain ⟨W2,Gg⟩:∃ W2,W.putObj l (.loop { z5p fn sv Bs D .ready none with state := .busy })=W2:=⟨_,rfl⟩
 rw [Gg] at G0;have Gy:W.grownBy W2 (some l):=by rw [<- Gg];exact grownBy_putObj_a _ _ _
 have G2:KeepsWalks W W2:=by rw [<- Gg];exact KeepsWalks.putObj _ h.L rfl
 have Gn:W2.heap[Bs]?=some (.cells #[v] (34) (0,0)):=by rw [<- Gg];exact (World.putObj_heap_other hBl).trans hv
 have Gq:W2.heap[D]?=some (.deferred (some [])):=by rw [<- Gg];exact (World.putObj_heap_other hDl).trans h.K
 have Gr:W2.heap[l]?=some (.loop { z5p fn sv Bs D .ready none with state := .busy }):=by rw [<- Gg];exact World.putObj_heap_same hl
 have Gb:W2.ownsRow w0.heap.size (3) 1 v ss.length (ss.map encI):=Gi.kept Gy (ownsRow_ne_a Gi h.L (fun cur e=>by first | cases e | exact Gh (Obj.cells.inj e).2.1));have Gl:Blw w0 W2:=h.below.grown Gy h.below.size (fun k e=>by cases e;exact h0l);obtain ⟨GA,GC⟩:=cell_of_box_a Gn;have Go:Bs < W2.heap.size:=(Array.getElem?_eq_some_iff.1 Gn).1;have G4:l < W2.heap.size:=(Array.getElem?_eq_some_iff.1 Gr).1;have Gp:D < W2.heap.size:=(Array.getElem?_eq_some_iff.1 Gq).1;have Gc:∀ {j:Nat} {o:Obj},W2.heap[j]?=some o->(∀ cur,o ≠ .cells cur (3) (0,0))->some j≠v.ownBlock:=fun hj hno=>by
  rcases ownsRow_ne_a Gb hj hno with e | e
  ·rw [e];simp
  ·exact fun e'=>e e'.symm
 clear Gg;unfold y0f;gi_wp2_with gi_round_op_a
 unfold y8p;gi_wp2_with (first
  | (
    gi_at_builtin;refine wpListIn_append_own _ rfl _ _ (34) rfl w0.heap.size (3) i0 (.int .i64 0) 1 8 Tryz.underlying34 hi G7 G8 G9 rfl (by decide) _ _ _ rfl (Gb.alloc _) ⟨W2.heap.size,0,none⟩ 1 1 [encI x] rfl rfl (cell_one_new _ _ _) (by simp [Value.oneCell',encI]) oM oM (by have:=Gl.size;simp;omega) ?_;intro v' w3 hown' hg3 hnil3
    have Gt:w3.heap[Bs]?=some (.cells #[v] (34) (0,0)):=(hg3.block Bs (by simp;omega) (Gc Gn (fun cur e=>by first | cases e | exact Gh (Obj.cells.inj e).2.1))).trans ((Below.heap_alloc _ _ Bs Go).trans Gn);obtain ⟨GB,GD⟩:=cell_of_box_a Gt;obtain ⟨g',Ga,Gd,rfl,Gs,G1,GE,GF,GG,GH⟩:∃ g' Ga Gd,v'=.slice (some ⟨g',0,none⟩) (ss.length+1) Ga/\w0.heap.size<=g'/\w3.heap[g']?=some (.cells Gd (3) (0,0))/\ss.length+1<=Ga/\Ga<=maxLen/\Gd.size=Ga * 1/\Gd.toList.take ((ss.length+1) * 1)=ss.map encI++[encI x]:=by
     rcases hown'.2 with ⟨_,h0⟩ | h'
     ·exact absurd h0 oM
     ·exact h'
    go_frame)
  | gi_round_op_a)
 have Ge:(W2.alloc (.cells #[encI x] (3))).grownBy w3 v.ownBlock:=hg3;have Gv:w3.heap[l]?=some (.loop { z5p fn sv Bs D .ready none with state := .busy }):=(Ge.block l (by simp;omega) (Gc Gr (fun cur e=>by first | cases e | exact Gh (Obj.cells.inj e).2.1))).trans ((Below.heap_alloc _ _ l G4).trans Gr);have Gu:w3.heap[D]?=some (.deferred (some [])):=(Ge.block D (by simp;omega) (Gc Gq (fun cur e=>by first | cases e | exact Gh (Obj.cells.inj e).2.1))).trans ((Below.heap_alloc _ _ D Gp).trans Gq);obtain ⟨w4,Gj⟩:∃ w4,w3.setCell ⟨Bs,0,none⟩ (.slice (some ⟨g',0,none⟩) (ss.length+1) Ga)=w4:=⟨_,rfl⟩
 rw [Gj];have Gm:w3.grownBy w4 (some Bs):=by rw [<- Gj];exact grownBy_setCell0_a _ _ _
 have G6:w4.heap[Bs]?=some (.cells #[.slice (some ⟨g',0,none⟩) (ss.length+1) Ga] (34) (0,0)):=by rw [<- Gj];exact heap_setCell_box_a _ Gt
 have Gk:w4.heap[l]?=some (.loop { z5p fn sv Bs D .ready none with state := .busy }):=(Gm.block l (Array.getElem?_eq_some_iff.1 Gv).1 (fun e=>hBl (by cases e;rfl))).trans Gv;have Gz:w4.heap[D]?=some (.deferred (some [])):=(Gm.block D (Array.getElem?_eq_some_iff.1 Gu).1 (fun e=>hDB (by cases e;rfl))).trans Gu;have Gf:=hown'.kept Gm (ownsRow_ne_a hown' Gt (fun cur e=>by first | cases e | exact Gh (Obj.cells.inj e).2.1));have G5:l < w4.heap.size:=(Array.getElem?_eq_some_iff.1 Gk).1;have Gw:Blw w0 w3:=(Gl.alloc Gl.size _).grown Ge (by have:=Gl.size;simp;omega) (fun k e=>(Gb.lt k e).1);have Gx:Blw w0 w4:=Gw.grown Gm Gw.size (fun k e=>by cases e;exact h0B);have G3:KeepsWalks W w4:=((G2.trans (KeepsWalks.alloc _ _)).trans (KeepsWalks.of_grownBy Ge (ownsRow_not_walk_a (Gb.alloc _)))).trans (by rw [<- Gj];exact KeepsWalks.setCell _ _ _);clear Gj;refine ⟨_,_,run_endRound none Gk,rfl,⟨⟨_,(World.putObj_heap_other hBl).trans G6,?_,by simp⟩,World.putObj_heap_same G5,(World.putObj_heap_other hDl).trans Gz,Gx.grown (grownBy_putObj_a _ _ _) Gx.size (fun k e=>by cases e;exact h0l)⟩,G3.trans (KeepsWalks.putObj _ Gk rfl)⟩;have:=Gf.kept (grownBy_putObj_a w4 l (.loop { { z5p fn sv Bs D .ready none with state := .busy } with state:=if (none:Option Code).isNone then .ready else .done,pending:=none })) (ownsRow_ne_a Gf Gk (fun cur e=>by first | cases e | exact Gh (Obj.cells.inj e).2.1));simpa using this
theorem y3x (n:Nat) (hn:2<=n) (g:Nat) (lb:Array Value) (eg:∀ args w,(callFunc g args).run Tryz.prog w=.ok (.enter g args) w)
  (S:List Int->Prop) (N:Nat) (hN:N<=maxLen) (hNb:N * 8<=140737488355328) (w:World) (hseq:SeqGives Fence.wide (n - 1) Tryz.prog g lb encI S N w) :
  CallsIn Fence.wide n Tryz.prog (358) #[.slice none 0 0,.func (.func g) #[] lb] w fun e w'=>∃ (v:Value) (ss:List Int),e=.returned v/\S ss/\w'.ownsRow w.heap.size (3) 1 v ss.length (ss.map encI)/\(v=.slice none 0 0↔ss=[])/\Blw w w':=by
 have h1:1<=n:=oM;have Gn:(34:Nat)≠3:=by decide
 have Go:Fence.wide.round=none:=rfl;refine callsIn_of_wp_marks Tryz.func358 rfl trivial ?_ Go;simp only [Tryz.ntmps358,List.size_toArray,List.length_cons,List.length_nil,Nat.reduceAdd,Nat.reduceSub,Array.replicate_succ,Array.replicate_zero,List.push_toArray,List.append_toArray,List.nil_append,List.cons_append];gi_wp2
 refine wpIn_rangeFunc ?_;intro fn hfn;rw [Go];obtain ⟨W0,Gf⟩:∃ W0,w.alloc (.cells #[.slice none 0 0] (34))=W0:=⟨_,rfl⟩
 have Gp:W0.heap.size=w.heap.size+1:=by rw [<- Gf];simp
 have Gq:W0.heap[w.heap.size]?=some (.cells #[.slice none 0 0] (34) (0,0)):=by rw [<- Gf];exact World.alloc_heap_new w _
 have Gg:Blw w W0:=by rw [<- Gf];exact (Below.refl _ w).alloc (nL _) _
 rw [Gf];obtain ⟨W1,Gb⟩:∃ W1,(W0.alloc (.deferred (some []))).alloc (.loop (z5p fn (.func (.func g) #[] lb) w.heap.size W0.heap.size .ready none))=W1:=⟨_,rfl⟩
 have Gj:∀ k,k < W0.heap.size->W1.heap[k]?=W0.heap[k]?:=fun k hk=>by
  rw [<- Gb];exact (Below.heap_alloc _ _ k (by simp;omega)).trans (Below.heap_alloc _ _ k hk)
 have Gh:Blw w W1:=by rw [<- Gb];exact (Gg.alloc Gg.size _).alloc (by have:=Gg.size;simp;omega) _
 have Gu:W1.heap.size=W0.heap.size+2:=by rw [<- Gb];simp
 have hM:x5e w fn (.func (.func g) #[] lb) w.heap.size (W0.heap.size+1) W0.heap.size [] W1 :=
  ⟨⟨_,(Gj w.heap.size oM).trans Gq,⟨rfl,.inl ⟨rfl,rfl⟩⟩,by simp⟩,
   by rw [<- Gb];have:=World.alloc_heap_new (W0.alloc (.deferred (some []))) (.loop (z5p fn (.func (.func g) #[] lb) w.heap.size W0.heap.size .ready none));rwa [World.size_alloc] at this,
   by rw [<- Gb];exact (Below.heap_alloc _ _ _ (by simp)).trans (World.alloc_heap_new W0 _),Gh⟩
 refine ⟨W0.heap.size+1,[{ target := .collected W0.heap.size,args:=#[] }],W1,{ target := .fn (.func g) lb,args:=#[.func (.yield (W0.heap.size+1)) #[] #[]] },W1,g,
  #[.func (.yield (W0.heap.size+1)) #[] #[]]++lb,W1,?_,?_,?_,?_,fun _=>h1,?_⟩
 ·rw [<- Gb];exact run_enterLoop_outer _ _ _ _ _
 ·simp [resolve,go_sem]
 ·intro f' hf';simp [Target.leads] at hf';subst hf';exact trivial
 ·simp [invoke,go_sem,eg]
 ·refine (hseq (W0.heap.size+1) (x5e w fn (.func (.func g) #[] lb) w.heap.size (W0.heap.size+1) W0.heap.size) W1 Gh (x2t _ _ _ _ _ _ _ Gh.size)
   (fun pre x W hJ hl=>w0g (n - 1 - 1) w fn hfn _ w.heap.size (W0.heap.size+1) W0.heap.size oM oM oM (nL _) oM N hN hNb pre x W hJ hl) hM).mono ?_
  rintro e W2 ⟨⟨v0,rfl⟩,ss,hS,h2⟩;obtain ⟨v,hv,Ge,Gi⟩:=h2.box;have Gd:=run_endLoop (P:=Tryz.prog) h2.L (by simp [z5p]);obtain ⟨W3,Gc⟩:∃ W3,W2.putObj (W0.heap.size+1) (.loop { z5p fn (.func (.func g) #[] lb) w.heap.size W0.heap.size .ready none with state := .exhausted })=W3:=⟨_,rfl⟩
  rw [Gc] at Gd;have Gm:W2.grownBy W3 (some (W0.heap.size+1)):=by rw [<- Gc];exact grownBy_putObj_a _ _ _
  have Gr:W3.heap[w.heap.size]?=some (.cells #[v] (34) (0,0)):=by rw [<- Gc];exact (World.putObj_heap_other oM).trans hv
  have Gk:W3.heap[W0.heap.size]?=some (.deferred (some [])):=by rw [<- Gc];exact (World.putObj_heap_other oM).trans h2.K
  have Ga:=Ge.kept Gm (ownsRow_ne_a Ge h2.L (fun cur e=>by first | cases e | exact Gn (Obj.cells.inj e).2.1));have Gl:Blw w W3:=h2.below.grown Gm h2.below.size (fun k e=>by cases e;omega);obtain ⟨Gs,Gt⟩:=cell_of_box_a Gr;clear Gc;refine ⟨none,W3,Gd,?_⟩;gi_wp2
  rw [<- Gp];refine ⟨by simp,.inl ⟨_,_,rfl,run_takeDeferred Gk,?_⟩⟩;exact ⟨_,results_tmp rfl _ _ _,v,ss,rfl,hS,Ga.kept (grownBy_putObj_a _ _ _) (ownsRow_ne_a Ga Gk (fun cur e=>by first | cases e | exact Gn (Obj.cells.inj e).2.1)),Gi,Gl.grown (grownBy_putObj_a _ _ _) Gl.size (fun k e=>by cases e;omega)⟩
theorem y6e (g:Nat) (lb:Array Value) (eg:∀ args w,(callFunc g args).run Tryz.prog w=.ok (.enter g args) w)
  (S:List Int->Prop) (N:Nat) (hN:N<=1000000) (w:World) (hseq:SeqGives Fence.wide 9 Tryz.prog g lb encI S N w) :
  Calls Tryz.prog 315 #[.func (.func g) #[] lb] w fun e w'=>∃ (v:Value) (ss:List Int),e=.returned v/\S ss/\w'.ownsRow w.heap.size 3 1 v ss.length (ss.map encI)/\(v=.slice none 0 0↔ss=[])/\Blw w w':=by
 have HA:=hid ((callsIn_wide (n:=10)).1 (y3x 10 oM g lb eg S N (by unfold maxLen;omega) oM w hseq));go_enter Tryz.func315,Tryz.ntmps315
 go_wp2_with (go_at_call 358;refine HA.out.mono ?_;rintro e w' ⟨v,ss,rfl,hS,Gb,Ga,hb⟩)
 go_ret;exact ⟨v,ss,rfl,hS,Gb,Ga,hb⟩
theorem y9g (w:World):Calls Tryz.prog 382 #[.slice none 0 0,.int .i64 0,.int .i64 0] w fun e w'=>e=.returned (.tuple #[])/\w=w':=by
 go_enter Tryz.func382,Tryz.ntmps382
 go_wp2;refine wp_loop_rounds 1 ?_;rw [rounds_succ];go_wp2;go_end0;exact ⟨rfl,rfl⟩
theorem w2j (lim:Int) (w:World):Calls Tryz.prog 359 #[.slice none 0 0,.int .i64 0,.int .i64 0,.int .i64 lim] w fun e w'=>e=.returned (.tuple #[])/\w=w':=by
 go_enter Tryz.func359,Tryz.ntmps359
 go_wp2;refine wp_loop_rounds 1 ?_;rw [rounds_succ];go_wp2_with fail
 refine (y9g _).mono ?_;rintro e w1 ⟨rfl,rfl⟩;go_wp2;refine bodyPost_ret (results_none rfl _ _ _) rfl ?_;exact ⟨rfl,rfl⟩
theorem x9b (w:World):Calls Tryz.prog 316 #[.slice none 0 0] w fun e w'=>e=.returned (.tuple #[])/\w=w':=by
 go_enter Tryz.func316,Tryz.ntmps316
 go_wp2_with (first
  | (go_at_call 359;refine (w2j _ _).mono ?_;rintro e w1 ⟨rfl,rfl⟩)
  | go_in)
 go_end0;exact ⟨rfl,rfl⟩
end
section
open Go.RowKit Go.Maps
theorem z3a {P:Program} (w:World) {ops:Array Oper} {rest:List Oper} {o:Oper} {a:Act} {Q:Exit->Act->World->Prop} (s x:Operand) (t:TypeId)
  (hw:Region.wanted o (yielded ops a.tmps)=true)
  (ho:o.op=.call { callee := .builtin .append,args:=#[s,x],argTypes:=#[t,t] })
  (base:Nat) (e:TypeId) (i:TypeInfo) (z:Value) (size bytes:Nat) (ht:P.underlying t=some (.slice e)) (hi:P.info? e=some i) (hz:i.zero=some z)
  (hsize:i.size=size) (hby:i.bytes=bytes) (hzs:z.cells.size=size) (hsz:0 < size)
  (v:Value) (n:Nat) (xs:List Value) (hs:a.eval s=v) (hown:w.ownsRow base e size v n xs)
  (B:Nat) (A:Option Addr) (m c:Nat) (news:List Value) (hx:a.eval x=.slice A m c) (hr:z0c w B size A m news) (h1:∀ u∈news,u.oneCell'=true)
  (h63:n+m<=maxLen) (hbytes:(n+m) * bytes<=140737488355328) (hbase:base<=w.heap.size)
  (h:∀ A' n' c' w',n'=n+m->w'.ownsRow base e size (.slice A' n' c') n' (xs++news)->w.grownBy w' v.ownBlock->((Value.slice A' n' c').ownBlock=v.ownBlock\/(Value.slice A' n' c').ownBlock=some w.heap.size)->wpList P ops Q rest (a.put o.dst (.slice A' n' c')) w'):wpList P ops Q (o :: rest) a w:=by
 refine Go.BigFrame.wpList_want hw fun K hK=>?_
 refine z3p w s x t ho base e i z size bytes ht hi hz hsize hby hzs hsz v n xs hs hown B A m c news hx hr h1 h63 hbytes hbase fun v' w' h2 h3 h4=>?_
 obtain ⟨A',c',rfl⟩:=z3i h2;exact hK _ _ (h A' _ c' w' rfl h2 h3 h4)
structure Mk where
 id:Nat
 k:Nat
 x:Bool
 y:Bool
 D:DataW Unit
 n:Nat
section
variable {c:CX} {w w':World} {S:Fp} {t:TX} {l:List Mk}
end
end
section
open Go.RowKit Go.Maps Go.Sort Go.Shelf
def z0x (xs:List Nat):List Value:=xs.map fun x:Nat=>Value.int .i64 x
theorem x3p (xs:List Nat):(xs.map Int.ofNat).map encI=z0x xs:=by simp [z0x,encI,Function.comp_def]
theorem w2l {ss:List Int} {ks:List Nat} (h:ss.Perm (ks.map Int.ofNat)):∃ xs:List Nat,ss=xs.map Int.ofNat/\xs.Perm ks:=by
 refine ⟨ss.map Int.toNat,?_,?_⟩
 ·rw [List.map_map]
  symm
  refine (List.map_congr_left (g:=id) ?_).trans (List.map_id ss);intro a ha;obtain ⟨k,_,rfl⟩:=List.mem_map.1 (h.mem_iff.1 ha);rfl
 ·have h2:=h.map Int.toNat
  rw [List.map_map] at h2;have e:(Int.toNat ∘ Int.ofNat)=id:=by funext x;rfl
  rwa [e,List.map_id] at h2
def RowI (cs:Array Value) (xs:List Nat):Prop:=xs.length<=cs.size/\∀ i (h:i < xs.length),cs[i]?=some (.int .i64 ((xs[i]:Nat):Int))
theorem RowI.set {cs:Array Value} {xs:List Nat} (h:RowI cs xs) (j x:Nat) (hj:j < xs.length):RowI (cs.setIfInBounds j (.int .i64 x)) (xs.set j x):=by
 refine ⟨by simpa using h.1,fun i hi=>?_⟩;rw [List.length_set] at hi;rw [z5m i (by have:=h.1;omega),List.getElem_set];by_cases hij:i=j
 ·rw [if_pos hij,if_pos hij.symm]
 ·rw [if_neg hij,if_neg (fun e=>hij e.symm)];exact h.2 i hi
def y1q (w wr:World) (g:Nat) (xs:List Nat) (sz:Nat):Prop:=∃ cs ys,Blk wr g 3 cs/\cs.size=sz/\RowI cs ys/\ys.Perm xs/\Chg (fun k=>k=g) w wr
def y3s (w:World) (g:Nat) (xs:List Nat) (sz:Nat) (e:Ending) (w':World):Prop:=e=.returned (.tuple #[])/\y1q w w' g xs sz
theorem y4m (g n cap sz:Nat) (xs:List Nat) (w:World) (h:y1q w w g xs sz) (hl:xs.length=n) (hn:n<=1000000) (hc:n<=cap) (hcm:cap<=9223372036854775807) :
  Calls Tryz.prog 382 #[.slice (some ⟨g,0,none⟩) n cap,.int .i64 0,.int .i64 n] w (y3s w g xs sz):=by
 have H0:=hid h;have HL:=hid hl;clear h hl;go_enter Tryz.func382,Tryz.ntmps382
 go_wp2;go_loopw [6] (fun i wr=>∃ (k:Nat),1<=k/\k<=n+1/\i=.int .i64 k/\Hid (y1q w wr g xs sz)) (fun i _=>n+1 - (Go.RowKit.intOf i).toNat)
 case atStart=>exact ⟨1,oM,oM,rfl,H0⟩
 case round =>
  clear H0;obtain ⟨k,Gg,hk,rfl,H⟩:=hrel;by_cases hlt:k < n
  ·go_wp2
   go_loopw [7] (fun j wr=>∃ (q:Nat),q<=k/\j=.int .i64 q/\Hid (y1q w wr g xs sz)) (fun j _=>(Go.RowKit.intOf j).toNat)
   case atStart=>exact ⟨k,nL _,rfl,H⟩
   case round =>
    clear H;obtain ⟨q,hq,rfl,H⟩:=hrel;by_cases hq0:q=0
    ·subst hq0
     have HB:=H.out;have H1:Hid (y1q w wr.drew g xs sz):=by
      obtain ⟨cs,ys,h1,h2,h3,h4,h5⟩:=H.out;exact ⟨cs,ys,h1,h2,h3,h4,h5.drew⟩
     clear HB H;go_wp2;refine z0k (fun w'=>w'=wr.drew) 14 [(true,0),(true,1),(true,2),(true,3),(true,4),(true,5),(true,6),(true,7),(true,8),(true,9),(true,10),(true,11),(true,12),(false,13)] (by kernel_rfl) (by kernel_rfl) rfl ?_;refine tkS (.int .i64 0) (fun w' hS=>?_) ?_
     ·go_simp
     refine tkS (.int .i64 0) (fun w' hS=>?_) ?_
     ·go_simp
     refine tkS (.bool false) (fun w' hS=>?_) ?_
     ·go_simp
     refine tkS (.bool false) (fun w' hS=>?_) ?_
     ·go_simp
     refine z0n (by rfl) (by rfl) ?_;simp only [zA,zB,zC,Act.put,zD,zE,zF];refine z0n (by rfl) (by rfl) ?_;simp only [zA,zB,zC,Act.put,zD,zE,zF];refine z0n (by rfl) (by rfl) ?_;simp only [zA,zB,zC,Act.put,zD,zE,zF];refine z0n (by rfl) (by rfl) ?_;simp only [zA,zB,zC,Act.put,zD,zE,zF];refine z0n (by rfl) (by rfl) ?_;simp only [zA,zB,zC,Act.put,zD,zE,zF];refine z0n (by rfl) (by rfl) ?_;simp only [zA,zB,zC,Act.put,zD,zE,zF];refine z0n (by rfl) (by rfl) ?_;simp only [zA,zB,zC,Act.put,zD,zE,zF];refine z0n (by rfl) (by rfl) ?_;simp only [zA,zB,zC,Act.put,zD,zE,zF];refine z0n (by rfl) (by rfl) ?_;simp only [zA,zB,zC,Act.put,zD,zE,zF];refine z0l (by rfl) ?_;go_wp2_with fail
     refine ⟨rfl,?_⟩;show wpList _ _ _ _ _ _;simp only [List.drop_succ_cons,List.drop_zero];go_wp2_with fail
     refine NoPanic.normal ?_;go_wp2;go_roundw
     case rel=>exact ⟨k+1,oM,oM,by go_num,H1⟩
     case measure=>simp [Go.RowKit.intOf];omega
    ·obtain ⟨q',rfl⟩:∃ q',q=q'+1:=⟨q - 1,oM⟩
     obtain ⟨cs,ys,h1,h2,h3,h4,h5⟩:=H.out;have Gh:ys.length=n:=by rw [h4.length_eq];exact HL.out
     have i1:q'+1 < ys.length:=oM;have i0:q' < ys.length:=oM;have c1:wr.cell? ⟨g,q'+1,none⟩=some (.int .i64 ((ys[q'+1]:Nat):Int)):=by rw [h1.cell];exact h3.2 _ i1
     have c0:wr.cell? ⟨g,q',none⟩=some (.int .i64 ((ys[q']:Nat):Int)):=by rw [h1.cell];exact h3.2 _ i0
     have HP:=hid (List.set_set_perm i1 i0);have Ge:=hid ((h3.set (q'+1) ys[q'] i1).set q' ys[q'+1] (by rw [List.length_set];exact i0));have z1:=h1.frozen (q'+1);have z0:=h1.frozen q';have Ga:=hid h1;have Gd:=hid h2;have Gc:=hid h4;have Gb:=hid h5;have Gf:=hid h3;generalize hx1:ys[q'+1]=x1 at *;generalize hx0:ys[q']=x0 at *;clear hx1 hx0 h1 h2 h3 h4 h5 H;have e1:(0:Int) < (q':Int)+1:=oM;have e2:(q':Int)+1 < (n:Int):=oM;have e3:(q':Int) < (n:Int):=oM;have e4:(0:Int)<=(q':Int):=oM;have e5:decide ((0:Int) < (q':Int)+1)=true:=dT;have e6:((q':Int)+1).toNat=q'+1:=oM;have e7:¬ ((q':Int)+1 < 0):=oM;have e8:IntKind.i64.wrap (q':Int)=(q':Int):=by rw [IntKind.wrap_i64];omega
     have e9:(0:Int)<=(q':Int)+1:=oM;go_wp2;refine z0k (fun w'=>w'=wr.drew) 14 [(true,0),(true,1),(true,2),(true,3),(true,4),(true,5),(true,6),(true,7),(true,8),(true,9),(true,10),(true,11),(true,12),(false,13)] (by kernel_rfl) (by kernel_rfl) rfl ?_;refine tkS (.int .i64 ((q':Int)+1)) (fun w' hS=>?_) ?_
     ·go_simp
     refine tkS (.int .i64 0) (fun w' hS=>?_) ?_
     ·go_simp
     refine tkS (.bool true) (fun w' hS=>?_) ?_
     ·go_simp
     refine tkS (.bool true) (fun w' hS=>?_) ?_
     ·go_simp
     refine tkS (.slice (some ⟨g,0,none⟩) n cap) (fun w' hS=>?_) ?_
     ·go_simp
     refine tkS (.int .i64 ((q':Int)+1)) (fun w' hS=>?_) ?_
     ·go_simp
     refine tkS (.pointer (some ⟨g,q'+1,none⟩)) (fun w' hS=>?_) ?_
     ·go_simp
     refine tkS (.int .i64 x1) (fun w' hS=>?_) ?_
     ·subst hS
      go_simp
     refine tkS (.slice (some ⟨g,0,none⟩) n cap) (fun w' hS=>?_) ?_
     ·go_simp
     refine tkS (.int .i64 ((q':Int)+1)) (fun w' hS=>?_) ?_
     ·go_simp
     refine tkS (.int .i64 q') (fun w' hS=>?_) ?_
     ·go_simp
     refine tkS (.pointer (some ⟨g,q',none⟩)) (fun w' hS=>?_) ?_
     ·go_simp
     refine tkS (.int .i64 x0) (fun w' hS=>?_) ?_
     ·subst hS
      go_simp
     refine z0l (by rfl) ?_;go_wp2;refine ⟨rfl,?_⟩;show wpList _ _ _ _ _ _;simp only [List.drop_succ_cons,List.drop_zero];by_cases hx:x1 < x0
     ·have t1:decide ((x1:Int) < (x0:Int))=true:=dT
      have t2:decide (x1 < x0)=true:=decide_eq_true hx;go_wp2_with fail
      refine NoPanic.normal ?_;clear e5 t1 t2;go_wp2;have H1:Hid (y1q w ((wr.setCell ⟨g,q'+1,none⟩ (.int .i64 x0)).setCell ⟨g,q',none⟩ (.int .i64 x1)).drew.drew g xs sz) :=
       ⟨(cs.setIfInBounds (q'+1) (.int .i64 x0)).setIfInBounds q' (.int .i64 x1),(ys.set (q'+1) x0).set q' x1,(Ga.out.set_ (q'+1) _).set_ q' _,by have:=Gd.out;simpa using this,Ge.out,HP.out.trans Gc.out,((Gb.out.setCell (p:=⟨g,q'+1,none⟩) (.inl rfl) _).setCell (p:=⟨g,q',none⟩) (.inl rfl) _).drew.drew⟩
      go_region;go_wp2;exact ⟨⟨q',oM,rfl,H1⟩,by simp [Go.RowKit.intOf]⟩
     ·have t1:decide ((x1:Int) < (x0:Int))=false:=dF
      have t2:decide (x1 < x0)=false:=decide_eq_false hx;have H1:Hid (y1q w wr.drew g xs sz):=⟨cs,ys,Ga.out,Gd.out,Gf.out,Gc.out,Gb.out.drew⟩
      go_wp2_with fail
      refine NoPanic.normal ?_;go_wp2;go_roundw
      case rel=>exact ⟨k+1,oM,oM,by go_num,H1⟩
      case measure=>simp [Go.RowKit.intOf];omega
  ·go_wp2
   go_end0;exact ⟨rfl,H.out⟩
theorem w6a (g n cap sz:Nat) (lim:Int) (xs:List Nat) (w:World) (h:y1q w w g xs sz) (hl:xs.length=n) (hn:n<=12) (hc:n<=cap) (hcm:cap<=9223372036854775807) :
  Calls Tryz.prog 359 #[.slice (some ⟨g,0,none⟩) n cap,.int .i64 0,.int .i64 n,.int .i64 lim] w (y3s w g xs sz):=by
 have HI:=hid (y4m g n cap sz xs w h hl oM hc hcm);have e1:decide ((n:Int)<=12)=true:=dT;have e2:decide (n<=12)=true:=decide_eq_true hn;clear h hl;go_enter Tryz.func359,Tryz.ntmps359
 go_wp2;refine wp_loop_rounds 1 ?_;rw [rounds_succ];go_wp2_with fail
 refine HI.out.mono ?_;rintro e w1 ⟨rfl,h1⟩;have H1:=hid h1;clear h1;go_wp2;go_end0;exact ⟨rfl,H1.out⟩
theorem w2s {w:World} {base g m c:Nat} {cs:Array Value} {ys:List Nat} (hB:Blk w g 3 cs) (hb:base<=g) (hm:m<=c) (hc:c<=maxLen) (hs:cs.size=c) (hr:RowI cs ys) (hl:ys.length=m):w.ownsRow base 3 1 (.slice (some ⟨g,0,none⟩) m c) m (z0x ys):=by
 refine ⟨by simp [z0x,hl],.inr ⟨g,c,cs,rfl,hb,hB,hm,hc,oM,?_⟩⟩;apply List.ext_getElem?;intro i;by_cases hi:i < m
 ·rw [List.getElem?_take_of_lt oM,Array.getElem?_toList,hr.2 i oM]
  simp [z0x,hl ▸ hi]
 ·rw [List.getElem?_eq_none (by simp;omega),List.getElem?_eq_none (by simp [z0x];omega)]
theorem w2d {w:World} {base g m c:Nat} {xs:List Nat} (h:w.ownsRow base 3 1 (.slice (some ⟨g,0,none⟩) m c) m (z0x xs)):∃ cur,Blk w g 3 cur/\cur.size=c/\RowI cur xs/\xs.length=m:=by
 have hl:xs.length=m:=by have:=h.1;simpa [z0x] using this
 rcases h.2 with ⟨hv,_⟩ | ⟨g',cap',cur,hv,hb,hh,h1,h2,h3,h4⟩
 ·cases hv
 ·simp only [Value.slice.injEq,Option.some.injEq,Addr.mk.injEq,and_true,true_and] at hv
  obtain ⟨rfl,rfl⟩:=hv;refine ⟨cur,hh,oM,⟨oM,fun i hi=>?_⟩,hl⟩;have h5:(cur.toList.take (m * 1))[i]?=(z0x xs)[i]?:=by rw [h4]
  rw [List.getElem?_take_of_lt oM] at h5;rw [<- Array.getElem?_toList,h5];simp [z0x,hi]
theorem w2y (g n cap sz:Nat) (xs:List Nat) (w:World) (h:y1q w w g xs sz) (hl:xs.length=n) (hn:n<=12) (hc:n<=cap) (hcm:cap<=9223372036854775807) :
  Calls Tryz.prog 316 #[.slice (some ⟨g,0,none⟩) n cap] w (y3s w g xs sz):=by
 have e1:IntKind.u64.wrap (n:Int)=(n:Int):=by rw [IntKind.wrap_u64];omega
 have Ga:=hid (y0u n w oM);have HP:=hid (w6a g n cap sz (Lib.bitLen n) xs w h hl hn hc hcm);generalize Lib.bitLen n=k at *;clear h hl;go_enter Tryz.func316,Tryz.ntmps316
 go_wp2_with (first
  | (go_at_call 109;refine Ga.out.mono ?_;rintro e w' ⟨rfl,rfl⟩)
  | (go_at_call 359;refine HP.out.mono ?_;rintro e w1 ⟨rfl,h1⟩;have H1:=hid h1;clear h1))
 go_end0;exact ⟨rfl,H1.out⟩
def RetN (w:World) (P:List Nat->Prop) (e:Ending) (w':World):Prop:=∃ A m c ys,e=.returned (.slice A m c)/\P ys/\m=ys.length/\w'.ownsRow w.heap.size 3 1 (.slice A m c) m (z0x ys)/\Blw w w'
theorem x4w (g:Nat) (lb:Array Value) (eg:∀ args w,(callFunc g args).run Tryz.prog w=.ok (.enter g args) w)
  (ks:List Nat) (N:Nat) (hN:N<=12) (w:World) (hseq:SeqGives Fence.wide 9 Tryz.prog g lb encI (fun ss=>ss.Perm (ks.map Int.ofNat)) N w) :
  Calls Tryz.prog 238 #[.func (.func g) #[] lb] w (RetN w (fun ys=>ys.Perm ks)):=by
 have HC:=hid (y6e g lb eg _ N oM w hseq.bounded);go_enter Tryz.func238,Tryz.ntmps238
 go_wp2_with (go_at_call 315;refine HC.out.mono ?_;rintro e W ⟨v,ss,rfl,⟨hS,Gb⟩,hrow,hnil,hb⟩;refine stop ?_)
 unfold Stop;obtain ⟨xs,rfl,Ga⟩:=w2l hS;rw [x3p,List.length_map] at hrow;rw [List.length_map] at Gb;rcases hrow.2 with ⟨rfl,hz⟩ | ⟨gb,cap,cur,rfl,hbase,hgb,r1,r2,r3,r4⟩
 ·have Gp:xs=[]:=List.eq_nil_of_length_eq_zero hz
  subst Gp;have HR:=hid hrow;have HB:=hid hb;have HP:=hid Ga;clear hrow hb hS Ga hnil HC hseq;go_wp2_with (go_at_call 316;refine (x9b _).mono ?_;rintro e w1 ⟨rfl,rfl⟩)
  go_ret;exact ⟨none,0,0,[],rfl,HP.out,rfl,HR.out,HB.out⟩
 ·obtain ⟨cs,hB,Gi,hR,hl⟩:=w2d hrow
  have Gj:y1q W W gb xs cap:=⟨cs,xs,hB,Gi,hR,List.Perm.refl _,Chg.refl _ _⟩
  have HS:=hid (w2y gb xs.length cap cap xs W Gj rfl oM r1 (by unfold maxLen at r2;omega));have HB:=hid hb;have HP:=hid Ga;have HF:Hid (w.heap.size<=gb/\xs.length<=cap/\cap<=maxLen):=hid ⟨hbase,r1,r2⟩;clear hrow hb hS Ga hnil HC hseq hB Gi hR hl Gj r1 r2 r3 r4 hgb hbase;go_wp2_with (go_at_call 316;refine HS.out.mono ?_;rintro e w1 ⟨rfl,hs⟩;have Ge:=hid hs;clear hs)
  obtain ⟨Gq,ys,Gf,Gk,Gg,Gc,Gh⟩:=Ge.out;have Gd:=Gc.length_eq;have HO:=hid (w2s (base:=w.heap.size) Gf HF.out.1 HF.out.2.1 HF.out.2.2 Gk Gg Gd);have Gl:Hid (Blw w w1):=hid (HB.out.trans (Gh.toBelow HB.out.size (fun k hk=>by rw [hk];exact HF.out.1)));have Gn:=hid (Gc.trans HP.out);have Gm:=hid Gd;clear Gf Gk Gg Gc Gh Gd Ge HS HB HP;go_wp2;go_ret;exact ⟨_,_,_,ys,rfl,Gn.out,Gm.out.symm,HO.out,Gl.out⟩
end
section
open Go.RowKit
def w0b (w:World) (e:Ending) (w':World):Prop:=∃ v:Nat,v < 4294967296/\e=.returned (.int .u32 v)/\w=w'
theorem x9p (A:Option Addr) (n cap B:Nat) (xs:List Nat) (w:World) (hrd:z0c w B 1 A n (z0a xs)) (hv:∀ x∈xs,x < 18446744073709551616) (hn:n<=1000000) (ht:Tab w) :
  Calls Tryz.prog 249 #[.slice A n cap] w (w0b w):=by
 have HR:=hid hrd;have HT:=hid ht;have HV:Hid (∀ k (hk:k < xs.length),xs[k] < 18446744073709551616):=hid (fun k hk=>hv _ (List.getElem_mem hk));have uc:IntKind.u32.signed=false:=rfl;clear hrd hv ht;go_enter Tryz.func249,Tryz.ntmps249
 go_wp2;go_loopw [3,8] (fun r i wr=>∃ k s:Nat,k<=n/\s < 4294967296/\i=.int .i64 k/\r=.int .u32 s/\Hid (w=wr)) (fun _ i _=>n - (Go.RowKit.intOf i).toNat)
 case atStart=>exact ⟨0,4294967295,Nat.zero_le _,oM,by go_num,by go_num,hid rfl⟩
 case round =>
  obtain ⟨k,s,hk,hs,rfl,rfl,hw⟩:=hrel;have hw:=hw.out;subst hw;by_cases hlt:k < n
  ·obtain ⟨Gc,b,Gk,hA,Gg,q0⟩:=z2b HR.out hlt
   subst hA;have hx:=HV.out k Gc;have Gh:(0:Int)<=(k:Int):=oM;have Gi:(k:Int) < (n:Int):=oM;generalize xs[k]=x at *;go_wp2;clear q0;go_loopw [3,5,12] (fun r y i wr=>∃ j s z:Nat,j<=8/\s < 4294967296/\z < 18446744073709551616/\i=.int .i64 j/\r=.int .u32 s/\y=.int .u64 z/\Hid (w=wr)) (fun _ _ i _=>8 - (Go.RowKit.intOf i).toNat)
   case atStart=>exact ⟨0,s,x,oM,hs,hx,by go_num,rfl,rfl,hid rfl⟩
   case round =>
    clear hs hx;obtain ⟨j,s,z,hj,hs,hz,rfl,rfl,rfl,hw⟩:=hrel;have hw:=hw.out;subst hw;by_cases h8:j < 8
    ·have e1:IntKind.u8.wrap (z:Int)=((z % 256:Nat):Int):=by rw [IntKind.wrap_u8];omega
     have HS:=hid (y5f s (z % 256) hs oM w HT.out);have Ge:=Crc.step_lt hs (show z % 256 < 256 by omega);generalize z % 256=by_ at *;generalize Crc.step s by_=s2 at *;have Gj:(z:Int) / 256=((z / 256:Nat):Int):=oM;have Gf:z / 256 < 18446744073709551616:=oM;generalize z / 256=z2 at *;go_wp2_with fail
     refine HS.out.mono ?_;rintro e w1 ⟨rfl,rfl⟩;go_wp2;go_roundw
     case rel=>exact ⟨j+1,s2,z2,oM,Ge,Gf,by go_num,rfl,rfl,hid trivial⟩
     case measure=>simp [Go.RowKit.intOf];omega
    ·have Gb:j=8:=oM
     subst Gb;go_wp2;go_roundw
     case rel =>
      first
       | exact ⟨k+1,s,oM,hs,by go_num,rfl,hid trivial⟩
       | (
         repeat apply Exists.intro
         refine ⟨?_,trivial⟩;exact ⟨k+1,s,oM,hs,by go_num,rfl,hid trivial⟩)
       | (
         refine ⟨_,?_⟩;exact ⟨k+1,s,oM,hs,by go_num,rfl,hid trivial⟩)
     case measure=>simp [Go.RowKit.intOf];omega
  ·have Gd:k=n:=oM
   subst Gd;have hx:=y5h s hs;have Ga:s ^^^ Crc.ones < 4294967296:=Crc.xor_lt hs (by decide);generalize s ^^^ Crc.ones=v at *;go_wp2;go_ret;exact ⟨v,Ga,by first | rfl | (rw [hx]),rfl⟩
def wb (x j:Nat):List Nat:=(List.range j).map fun i=>x / 256 ^ i % 256
theorem x9o (x j:Nat):wb x (j+1)=wb x j++[x / 256 ^ j % 256]:=by simp [wb,List.range_succ]
def wsB (xs:List Nat):List Nat:=xs.flatMap fun x=>wb x 8
def sumW (xs:List Nat):Nat:=Crc.sum (wsB xs)
theorem w9t {x j:Nat}:∀ b∈wb x j,b < 256:=fun b hb=>by
 obtain ⟨i,_,rfl⟩:=List.mem_map.1 hb;omega
theorem w9b {xs:List Nat}:∀ b∈wsB xs,b < 256:=fun b hb=>by
 obtain ⟨x,_,hx⟩:=List.mem_flatMap.1 hb;exact w9t b hx
theorem x0i (xs:List Nat):sumW xs < 4294967296:=Crc.sum_lt w9b
theorem w3k (xs:List Nat) (x:Nat):wsB (xs++[x])=wsB xs++wb x 8:=by simp [wsB]
theorem y3o (A:Option Addr) (n cap B:Nat) (xs:List Nat) (w:World) (hrd:z0c w B 1 A n (z0a xs)) (hv:∀ x∈xs,x < 18446744073709551616) (hn:n<=1000000) (ht:Tab w) :
  Calls Tryz.prog 249 #[.slice A n cap] w fun e w'=>e=.returned (.int .u32 (sumW xs:Int))/\w=w':=by
 have HR:=hid hrd;have HT:=hid ht;have HV:Hid (∀ k (hk:k < xs.length),xs[k] < 18446744073709551616):=hid (fun k hk=>hv _ (List.getElem_mem hk));have Gf:=hid (show xs.length=n by have:=hrd.1;simp [z0a] at this;omega);have uc:IntKind.u32.signed=false:=rfl;clear hrd hv ht;go_enter Tryz.func249,Tryz.ntmps249
 go_wp2;go_loopw [3,8] (fun r i wr=>∃ k s:Nat,k<=n/\s < 4294967296/\i=.int .i64 k/\r=.int .u32 s/\Hid (s=Crc.reg Crc.ones (wsB (xs.take k)))/\Hid (w=wr)) (fun _ i _=>n - (Go.RowKit.intOf i).toNat)
 case atStart=>exact ⟨0,4294967295,Nat.zero_le _,oM,by go_num,by go_num,hid rfl,hid rfl⟩
 case round =>
  obtain ⟨k,s,hk,hs,rfl,rfl,Gc,hw⟩:=hrel;have hw:=hw.out;subst hw;by_cases hlt:k < n
  ·obtain ⟨Gg,b,Gq,hA,Gl,q0⟩:=z2b HR.out hlt
   subst hA;have hx:=HV.out k Gg;have Ge:Hid (Crc.reg Crc.ones (wsB (xs.take (k+1)))=Crc.reg s (wb xs[k] 8)):=hid (by rw [List.take_succ_eq_append_getElem Gg,w3k,Crc.reg_append,<- Gc.out]);have Gm:(0:Int)<=(k:Int):=oM;have Gn:(k:Int) < (n:Int):=oM;generalize xs[k]=x at *;go_wp2;clear q0;go_loopw [3,5,12] (fun r y i wr=>∃ j s1 z:Nat,j<=8/\s1 < 4294967296/\z < 18446744073709551616/\i=.int .i64 j/\r=.int .u32 s1/\y=.int .u64 z/\Hid (s1=Crc.reg s (wb x j))/\Hid (z=x / 256 ^ j)/\Hid (w=wr)) (fun _ _ i _=>8 - (Go.RowKit.intOf i).toNat)
   case atStart=>exact ⟨0,s,x,oM,hs,hx,by go_num,rfl,rfl,hid rfl,hid (by simp),hid rfl⟩
   case round =>
    clear hx;obtain ⟨j,s1,z,hj,Gb,hz,rfl,rfl,rfl,Ga,Gd,hw⟩:=hrel;have hw:=hw.out;subst hw;by_cases h8:j < 8
    ·have e1:IntKind.u8.wrap (z:Int)=((z % 256:Nat):Int):=by rw [IntKind.wrap_u8];omega
     have HS:=hid (y5f s1 (z % 256) Gb oM w HT.out);have Gj:=Crc.step_lt Gb (show z % 256 < 256 by omega);have HN:Hid (Crc.step s1 (z % 256)=Crc.reg s (wb x (j+1))):=hid (by rw [x9o,Crc.reg_snoc,<- Ga.out,<- Gd.out]);have HZ:Hid (z / 256=x / 256 ^ (j+1)):=hid (by rw [Gd.out,Nat.div_div_eq_div_mul,Nat.pow_succ]);generalize z % 256=by_ at *;generalize Crc.step s1 by_=s2 at *;have Gp:(z:Int) / 256=((z / 256:Nat):Int):=oM;have Gk:z / 256 < 18446744073709551616:=oM;generalize z / 256=z2 at *;clear Gc Ga Gd Ge;go_wp2_with fail
     refine HS.out.mono ?_;rintro e w1 ⟨rfl,rfl⟩;go_wp2;go_roundw
     case rel=>exact ⟨j+1,s2,z2,oM,Gj,Gk,by go_num,rfl,rfl,HN,HZ,hid trivial⟩
     case measure=>simp [Go.RowKit.intOf];omega
    ·have Gh:j=8:=oM
     subst Gh;have HQ:Hid (s1=Crc.reg Crc.ones (wsB (xs.take (k+1)))):=hid (by rw [Ge.out];exact Ga.out);clear Gc Ga Gd Ge hs;go_wp2;go_roundw
     case rel =>
      first
       | exact ⟨k+1,s1,oM,Gb,by go_num,rfl,HQ,hid trivial⟩
       | (
         repeat apply Exists.intro
         refine ⟨?_,trivial⟩;exact ⟨k+1,s1,oM,Gb,by go_num,rfl,HQ,hid trivial⟩)
       | (
         refine ⟨_,?_⟩;exact ⟨k+1,s1,oM,Gb,by go_num,rfl,HQ,hid trivial⟩)
     case measure=>simp [Go.RowKit.intOf];omega
  ·have Gi:k=n:=oM
   subst Gi;have hx:=y5h s hs;have HQ:Hid (s ^^^ Crc.ones=sumW xs):=hid (by
    rw [Gc.out,List.take_of_length_le (by rw [Gf.out];exact nL _)];show _=Crc.reg (0 ^^^ Crc.ones) _ ^^^ Crc.ones;rw [Nat.zero_xor])
   clear Gc Gf;generalize s ^^^ Crc.ones=v at *;go_wp2;go_ret;exact ⟨by rw [<- HQ.out];first | rfl | (rw [hx]),rfl⟩
def z4d (o:Nat):Nat:=z4m (3305111552+o)
theorem w4d (o:Nat) (ho:o < 65536):bits .or .u32 (o:Int) 3305111552=((3305111552+o:Nat):Int):=by
 have h:=u32_or_nat o 3305111552 oM oM;rw [show ((3305111552:Nat):Int)=3305111552 from rfl] at h;rw [h];congr 1
 have:=Nat.two_pow_add_eq_or_of_lt (i:=16) (b:=o) oM 50432;rw [show 2 ^ 16 * 50432=3305111552 from rfl] at this;rw [Nat.or_comm,<- this]
theorem y8g (o:Nat) (ho:o < 65536) (w:World) (ht:Tab w) :
  Calls Tryz.prog 340 #[.agg #[.int .i64 (-1),.int .i64 (-1),.int .u16 o]] w fun e w'=>e=.returned (.int .u64 (z4d o:Int))/\Blw w w':=by
 have Ga:Hid (∀ x,Blw w (w.alloc x)):=fun x=>(Below.refl _ _).alloc (nL _) x
 have HS:=hid (fun x=>z6l (3305111552+o) oM (w.alloc x) (ht.below (Ga.out x)));have e1:=w4d o ho;have u1:IntKind.u32.wrap (o:Int)=(o:Int):=by rw [IntKind.wrap_u32'];omega
 unfold z4d;generalize 3305111552+o=z at *;clear ht;go_enter Tryz.func340,Tryz.ntmps340
 go_wp2_with (go_at_call 374;refine (HS.out _).mono ?_;rintro e w1 ⟨rfl,Gb⟩;have Gc:=hid ((Ga.out _).trans (Gb.mono (by simp)));clear Gb)
 go_ret;exact ⟨rfl,Gc.out⟩
def y0d (w:World) (P:List Ins->Prop) (e:Ending) (w':World):Prop:=∃ A m c p,e=.returned (.tuple #[.slice A m c,.int .i64 0])/\P p/\w'.ownsRow w.heap.size 284 3 (.slice A m c) m (z0j p)/\Blw w w'
theorem x6k (c o:Nat) (hc:c<=4064) (ho:o < 65536) (h0:o≠0) (w:World) (ht:Tab w) :
  Calls Tryz.prog 284 #[.int .i64 c,.int .u16 o] w (y0d w (z0y [(64 * c,z4d o)])):=by
 have HT:=hid ht;have d1:decide ((0:Int)<=(c:Int))=true:=dT;have d2:decide ((c:Int)<=4064)=true:=dT;have d3:((o:Int) == 0)=false:=by rw [beq_eq_false_iff_ne];omega
 have u1:IntKind.u64.wrap (c:Int)=(c:Int):=by rw [IntKind.wrap_u64];omega
 have Gj:64 * c < 18446744073709551616:=oM;have u2:IntKind.u64.wrap ((c:Int) * 64)=((64 * c:Nat):Int):=by rw [IntKind.wrap_u64];omega
 generalize 64 * c=z at *;clear ht;go_enter Tryz.func284,Tryz.ntmps284
 go_wp2;have HC:=hid (Blk.new w 304 #[.int .i64 (-1),.int .i64 (-1),.int .u16 o]);have Gd:Hid (Blw w (w.alloc (.cells #[.int .i64 (-1),.int .i64 (-1),.int .u16 o] 304))):=(Below.refl _ _).alloc (nL _) _;generalize w.alloc (.cells #[.int .i64 (-1),.int .i64 (-1),.int .u16 o] 304)=W at *;have Gb:Hid (Blw W W.drew):=(Below.refl _ _).drew;refine z0k (fun w'=>Blw W w') 4 [(true,0),(true,2),(false,1),(false,3)] (by kernel_rfl) (by kernel_rfl) Gb.out ?_;refine tkS (.int .i64 c) (fun w' hS=>?_) ?_
 ·go_simp
 refine tkS (.agg #[.int .i64 (-1),.int .i64 (-1),.int .u16 o]) (fun w' hS=>?_) ?_
 ·have f0:w'.cell? ⟨w.heap.size,0,none⟩=some (.int .i64 (-1)):=(HC.out.below hS HC.out.lt).cell 0
  have f1:w'.cell? ⟨w.heap.size,1,none⟩=some (.int .i64 (-1)):=(HC.out.below hS HC.out.lt).cell 1;have f2:w'.cell? ⟨w.heap.size,2,none⟩=some (.int .u16 o):=(HC.out.below hS HC.out.lt).cell 2;go_simp
 refine z0l (by rfl) ?_;go_wp2;refine ⟨Gb.out,?_⟩;refine z0l (by rfl) ?_;go_wp2_with fail
 refine (y8g o ho W.drew ((HT.out.below Gd.out).below Gb.out)).mono ?_;rintro e w1 ⟨rfl,Gc⟩;have Ga:=hid (Gb.out.trans (Gc.mono Gb.out.size));have HS:=hid (z1q _ 1 1 _ _ (z4i w1 z (z4d o)) oM oM (fun e he=>by simp at he;subst he;exact Gj));have Gg:Hid (∀ x,Blw w (w1.alloc x)):=fun x=>((Gd.out.trans (Ga.out.mono Gd.out.size)).alloc (Nat.le_trans Gd.out.size Ga.out.size) x)
 generalize z4d o=y at *;clear Gc;go_wp2_with fail
 refine ⟨Ga.out,?_⟩;show wpList ..;simp only [List.drop_succ_cons,List.drop_zero];go_wp2_with (go_at_call 105;refine HS.out.mono ?_;intro e w2 h1;have h2:=z2s.back (Gg.out _) h1;obtain ⟨A1,m1,c1,p1,rfl,Gf,Ge,Gc⟩:=h2;have Gi:=hid Gf;have Gh:=hid Ge;have Ga:=hid Gc;clear h1 Gf Ge Gc)
 refine NoPanic.normal ?_;go_wp2;go_ret2;exact ⟨_,_,_,_,rfl,Gi.out,Gh.out,Ga.out⟩
theorem y9p (z:Array Value) (n i:Nat) (h:i < n):(madeCells z n)[i]?=some z[i % z.size]! := by
 unfold madeCells;rw [Array.getElem?_map,Array.getElem?_range,if_pos h];rfl
theorem y7i (L i:Nat) (hi:i < L):(madeCells (Value.agg #[.int .u64 0,.slice none 0 0]).cells (L * 2))[i * 2]?=some (.int .u64 0)/\(madeCells (Value.agg #[.int .u64 0,.slice none 0 0]).cells (L * 2))[i * 2+1]?=some (.slice none 0 0):=by
 have hz:(Value.agg #[.int .u64 0,.slice none 0 0]).cells=#[.int .u64 0,.slice none 0 0]:=rfl;rw [hz,y9p _ _ _ oM,y9p _ _ _ oM];have e1:i * 2 % (#[Value.int .u64 0,Value.slice none 0 0]:Array Value).size=0:=by show i * 2 % 2=0;omega
 have e2:(i * 2+1) % (#[Value.int .u64 0,Value.slice none 0 0]:Array Value).size=1:=by show (i * 2+1) % 2=1;omega
 rw [e1,e2];exact ⟨rfl,rfl⟩
def y2f (w:World) (L:Nat) (D:Nat->Prop) (v:Nat->Value) (cur:Nat->Nat) (e:Ending) (w':World):Prop:=∃ (a:DA) (S:Fp),e=.returned (v a.d)/\a.dirty=D/\Dev a L 0 w' S cur 0/\(∀ k,S k->w.heap.size<=k)/\Blw w w'
theorem x6p {dc:Array Value} {a:DA} {L:Nat} (hs:dc.size=15) (e0:dc[0]?=some (.slice (some ⟨a.pb,0,none⟩) (8 * L) (8 * L))) (e1:dc[1]?=some (.slice (some ⟨a.cb,0,none⟩) (8 * L) a.cc)) (e2:dc[2]?=some (.slice (some ⟨a.lb,0,none⟩) L L)) (e3:dc[11]?=some (.bool false)) (e4:dc[12]?=some (.bool false)) (e5:dc[13]?=some (.int .i64 0)) (e6:dc[14]?=some (.int .u64 0))
  (e7:∀ j,j < 8->dc[3+j]?=some (.pointer (some ⟨a.th j,0,none⟩))):dc=z7h a L 0:=by
 apply Array.ext_getElem?;intro i;by_cases hi:i < 15
 ·rcases (show i=0\/i=1\/i=2\/i=3\/i=4\/i=5\/i=6\/i=7\/i=8\/i=9\/i=10\/i=11\/i=12\/i=13\/i=14 by omega) with rfl | rfl | rfl | rfl | rfl | rfl | rfl | rfl | rfl | rfl | rfl | rfl | rfl | rfl | rfl
  ·exact e0
  ·exact e1
  ·exact e2
  ·exact e7 0 oM
  ·exact e7 1 oM
  ·exact e7 2 oM
  ·exact e7 3 oM
  ·exact e7 4 oM
  ·exact e7 5 oM
  ·exact e7 6 oM
  ·exact e7 7 oM
  ·exact e3
  ·exact e4
  ·exact e5
  ·exact e6
 ·rw [Array.getElem?_eq_none oM,Array.getElem?_eq_none (by show 15<=i;omega)]
theorem w3y {w0 w w':World} {L d cb cc lb pb:Nat} {per cs ls:Array Value} {th nt:Nat->Nat} {pl:List Nat} (D:Nat->Prop) (v:Nat->Value) (hL:L<=4096) (hlt:w0.heap.size<=pb) (hper:Blk w pb 32 per) (hps:per.size=8 * L) (hpr:RowU per pl) (hpl:pl.length=8 * L) (hb0:Blw w0 w) (H:OfI w w' pb L d cb cc lb cs ls th nt 8) (h1:cs.size=cc) (h2:8 * L<=cc) (h3:cc<=9223372036854775807)
  (hru:RowU cs pl) (hls:ls=madeCells (Value.agg #[.int .u64 0,.slice none 0 0]).cells (L * 2)) (g1:w.heap.size<=cb) (g2:w.heap.size<=lb) :
  y2f w0 L D v (fun k=>pl.getD k 0) (.returned (v d)) w':=by
 obtain ⟨⟨dc,hd,Gf,e0,e1,e2,e3,e4,e5,e6,e7⟩,hcu,hli,hth,hmp,hbl,hgd,hgt⟩:=H;have h0:=hb0.size;have Gd:Blw w0 w':=hb0.trans (hbl.mono h0);have Gc:Blk w' pb 32 per:=hper.below hbl hper.lt;have Ge:=x6p (a:=⟨d,pb,cb,lb,nt,th,cc,D⟩) Gf e0 e1 e2 e3 e4 e5 e6 e7;subst Ge;have Gb:=hmp oM;have Gg:=Gb.lt;have Gh:=hper.lt;have Ga:∀ {c:Array Value},RowU c pl->∀ i,i < 8 * L->c[i]?=some (.int .u64 ((pl.getD i 0:Nat):Int)):=fun hr i hi=>by
  rw [hr.2 i oM,List.getD_eq_getElem?_getD,List.getElem?_eq_getElem oM];rfl
 refine ⟨⟨d,pb,cb,lb,nt,th,cc,D⟩,fun k=>w0.heap.size<=k/\k < w'.heap.size,rfl,rfl,⟨⟨fun _=>0,fun _=>0,fun _ => .slice none 0 0,fun _=>[],fun k=>pl.getD k 0,fun _=>[]⟩,0,per,cs,ls,?_,⟨[],Gb,fun p hp=>(by cases hp),fun i h=>h.elim⟩,fun k _ _ e he=>(by cases he)⟩,fun k hk=>hk.1,Gd⟩;exact {
  dev:=hd
  perB:=Gc
  perS:=hps
  perI:=fun i hi=>⟨_,Ga hpr i hi⟩
  curB:=hcu
  curS:=h1
  curL:=h2
  curM:=h3
  curI:=fun i hi=>Ga hru i hi
  linB:=hli
  linS:=by rw [hls,size_madeCells];omega
  linD:=fun i hi=>by rw [hls];exact (y7i L i hi).1
  linH:=fun i hi=>by rw [hls];exact (y7i L i hi).2
  own:=fun i hi=>World.ownsRow_nil _ _ _ _
  ok:=fun i hi k hk=>absurd hk (by simp)
  few:=fun i hi=>nL _
  apart:=fun i j g hi hj h=>by cases h
  thr:=hth
  sd:=⟨by show w0.heap.size<=d;omega,hd.lt⟩
  sp:=⟨hlt,Gc.lt⟩
  sc:=⟨by show w0.heap.size<=cb;omega,hcu.lt⟩
  sl:=⟨by show w0.heap.size<=lb;omega,hli.lt⟩
  sn:=⟨by have:=(hgt 0 oM).2;show w0.heap.size<=nt 0;omega,Gg⟩
  st:=fun j hj=>⟨by have:=(hgt j hj).1;show w0.heap.size<=th j;omega,(hth j hj).lt⟩
  sh:=fun i g hi h=>by cases h
  lt:=fun k hk=>hk.2
  ne:=by show pb≠cb;omega
  hL:=hL
  hT:=oM
  pv:=fun i hi=>Ga hpr i hi
  hx:=fun _ _=>rfl
  lin:=fun _ _ e he=>by cases he
  link:=fun _ _=>rfl }
theorem w5v (D:Nat->Prop) (L:Nat) (h0:0 < L) (hL:L<=4096) (w:World):Calls Tryz.prog 73 #[.int .i64 L] w (y2f w L D (fun d => .tuple #[.pointer (some ⟨d,0,none⟩),.int .i64 0]) (fun _=>0)):=by
 obtain ⟨j0,Gd,Ge,Gb,Gf⟩:=info_parts z5t;have Gg:∀ W:World,(Instr.makeSlice 99 (.int .i64 ((8 * L:Nat):Int)) (.int .i64 ((8 * L:Nat):Int))).run Tryz.prog W=.ok (.slice (some ⟨W.heap.size,0,none⟩) (8 * L) (8 * L)) (W.alloc (.cells (madeCells #[.int .u64 0] (8 * L)) 32)):=fun W=>by
  have h:=run_makeSlice (P:=Tryz.prog) W 99 32 j0 (.int .u64 0) Tryz.underlying99 Gd Ge .i64 .i64 ((8 * L:Nat):Int) ((8 * L:Nat):Int) oM oM (by rw [Gb];omega) (by rw [Gf];omega) oM;rw [Gb,Int.toNat_natCast,Nat.mul_one] at h;exact h
 have HO:=hid (w4b w.heap.size L (List.replicate (8 * L) 0) hL h0 (w.alloc (.cells (madeCells #[.int .u64 0] (8 * L)) 32)) (by
  rw [show (w.alloc (.cells (madeCells #[.int .u64 0] (8 * L)) 32)).heap.size=w.heap.size+1 by simp];refine z0m w _ rfl _ (8 * L) 1 32 _ ?_ ?_
  ·refine congrArg (fun x=>Obj.cells x 32) (Array.ext' ?_)
   rw [toList_madeCells_one];simp [z0a]
  ·simp [z0a]))
 have HN:Hid (∀ e w',w7a (w.alloc (.cells (madeCells #[.int .u64 0] (8 * L)) 32)) w.heap.size L (List.replicate (8 * L) 0) e w'->∃ d:Nat,e=.returned (.pointer (some ⟨d,0,none⟩))/\y2f w L D (fun d => .tuple #[.pointer (some ⟨d,0,none⟩),.int .i64 0]) (fun _=>0) (.returned (.tuple #[.pointer (some ⟨d,0,none⟩),.int .i64 0])) w'):=by
  rintro e w1 ⟨d,cb,cc,lb,cs,ls,th,nt,rfl,h1,h2,h3,h4,h5,h6,h7,h8⟩;refine ⟨d,rfl,?_⟩;have hz:(fun k=>(List.replicate (8 * L) 0).getD k 0)=fun _=>0:=funext fun k=>by simp [List.getD_eq_getElem?_getD,List.getElem?_replicate];split <;> rfl
  have Ga:Blw w (w.alloc (.cells (madeCells #[.int .u64 0] (8 * L)) 32)):=(Below.refl _ _).alloc (nL _) _;have h:=w3y (w0:=w) D (fun d => .tuple #[.pointer (some ⟨d,0,none⟩),.int .i64 0]) hL (nL _) (Blk.new w 32 (madeCells #[.int .u64 0] (8 * L))) (by simp [size_madeCells]) (pl:=List.replicate (8 * L) 0) ⟨by simp [size_madeCells],fun i hi=>by
   have Gc:i < 8 * L:=by simpa using hi
   rw [y9p _ _ _ Gc,List.getElem_replicate];congr 1
   show (#[Value.int .u64 0]:Array Value)[i % 1]! = _;rw [Nat.mod_one];rfl⟩ (by simp) Ga h1 h2 h3 h4 h5 h6 h7 h8
  rw [hz] at h;exact h
 have e1:decide ((L:Int) < 1)=false:=dF;have e2:decide ((4096:Int) < (L:Int))=false:=dF;have u1:IntKind.i64.wrap ((L:Int) * 8)=((8 * L:Nat):Int):=by rw [IntKind.wrap_i64];omega
 have u2:(L:Int) * 8=((8 * L:Nat):Int):=oM;generalize madeCells #[.int .u64 0] (8 * L)=M at *;generalize 8 * L=N at *;go_enter Tryz.func73,Tryz.ntmps73
 go_wp2_with (go_at_call 168;refine HO.out.mono ?_;intro e w1 h1;obtain ⟨d,rfl,h2⟩:=HN.out e w1 h1;have HZ:=hid h2;clear h1 h2)
 go_ret2;exact HZ.out
end
end Go.Proofs.YtfkjjoglnmeciaaGreatDoor
