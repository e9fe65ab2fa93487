/- part 8 -/
import Derived.Test.YtmhbokcccjmfgaaGreatDoorQag
set_option maxRecDepth 100000
set_option maxHeartbeats 16000000
namespace Go.Proofs.YtmhbokcccjmfgaaGreatDoor
open Go.Lib (hid)
section
open Go.RowKit Go.Maps Go.Sort Go.Shelf
abbrev encI(x:Int):Value := .int .i64 x
theorem w5f{x y}(h:encI x=encI y):x=y:=by simpa[encI] using h
theorem y9l:Keyed Tryz.prog 3:=int_keyed Tryz.underlying3
theorem x2q{H:Type}(n l Bm b nn:Nat)(D0:DataW H){R}(J:List Int->World->Prop)
  (hY:∀pre x W,J pre W->pre.length<Maps.size D0->YieldAt Fence.wide (n-1) Tryz.prog l #[encI x] W fun e W'=>e=.returned true/\J (pre++[x]) W'/\KeepsWalks W W')
  (W:World) (hJ:AbidesFrom W J) (hm:W.cell? (Bm,())=some (.map (some b))) (hown:W.ownsMap Tryz.prog 3 R b nn D0) (h0:J [] W) (hn:1<=n) :
  CallsIn Fence.wide n Tryz.prog 250 #[.func (.yield l) #[] #[],(Bm,())] W fun e W'=>(∃v,e=.returned v)/\∃ss:List Int,ss.Perm (intKeys D0)/\J ss W':=by
 have Gh:Fence.wide.fn 250:=trivial;have Gl:Fence.wide.round=none:=rfl;refine callsIn_of_wp Tryz.func250 rfl Gh ?_ Gl;simp only[Tryz.ntmps250,List.size_toArray,List.length_cons,List.length_nil,Nat.reduceAdd,Nat.reduceSub,Array.replicate_succ,Array.replicate_zero,List.push_toArray,List.append_toArray,List.nil_append,List.cons_append];gi_wp2_with (first
  |(gi_at_range;refine wpListIn_range_own _ rfl _ 271 rfl 3 272 y9l Tryz.underlying271 _ b nn _ rfl hown ?_;intro w0 hrg0 hg0 hs0)
  |gi_in)
 go_frame
 gi_loopw [3] (fun _ wr=>∃(Ga:Lit->Bool)(Gd:Nat)(ss:List Int),wr.ranges Tryz.prog 3 R b W nn D0 Ga Gd/\ss.length+Gd<=Maps.size D0/\CollectedI D0 Ga ss/\J ss wr)
  (fun _ wr=>wr.rangeLeft b W)
 case atStart =>
  exact⟨_,_,[],hrg0,by simp,CollectedI.start D0,hJ [] W w0 none h0 hg0 (fun r e=>by cases e)⟩
 case round =>
  obtain⟨Ga,Gd,ss,Ge,Gn,hC,Gf⟩:=hrel;gi_wp2_with (first
   |(gi_at_next;refine wpListIn_next_ranges _ rfl _ rfl 3 y9l R encI id (fun key kl hk=>by obtain⟨x,hx,_⟩:=Maps.keyOf_i64 Tryz.underlying3 hk;exact⟨x,hx⟩) (fun v _ _=>⟨v,rfl⟩) b W nn _ _ _ rfl Ge ?_ ?_)
   |gi_in)
  ·intro hc0 hl0
   gi_wp2
   go_end0;exact⟨⟨_,rfl⟩,ss,hC.perm hown y9l Tryz.underlying3 hl0,Gf⟩
  ·intro x c kl yd yp w2 cnt2 hkey hlk hv hat hrg2 hlt hg2 hs2 hen
   obtain⟨x',ex,rfl,_⟩:=Maps.keyOf_i64 Tryz.underlying3 hkey;obtain rfl:x=x':=w5f ex;have Gi:J ss w2:=hJ ss wr w2 (some W.heap.size) Gf hg2 (fun r e=>by cases e;exact⟨nL _,Ge.iter_walk⟩);obtain⟨fn,Gm,Gc,Gg,hy,hR⟩:=hY ss x w2 Gi oM;clear hs2;gi_wp2
   refine hR.mono ?_;rintro e W3⟨rfl,Gj,Gk⟩;gi_wp2
   have Gb:=hrg2.of_walks Gk;go_roundw
   case rel=>exact⟨_,cnt2,ss++[x],Gb,by simp;omega,hC.step hlk hat,Gj⟩
   case measure=>rw[Gb.left_eq,Ge.left_eq];exact hlt
theorem z8t{H:Type}(n Bm b nn:Nat)(D0:DataW H){R}(w:World)(hBm:Bm<w)
  (hm:w.cell? (Bm,())=some (.map (some b))) (hown:w.ownsMap Tryz.prog 3 R b nn D0) (hn:1<=n) :
  SeqGives Fence.wide n Tryz.prog 250 #[(Bm,())] encI (fun ss=>ss.Perm (intKeys D0)) (Maps.size D0) w:=fun l J W hW hJ hY h0=>by
 have Gb:W.ownsMap Tryz.prog 3 R b nn D0:=by
  have Gc:=hown.lt;obtain⟨es,Ga,hb,Ft,hs,hD⟩:=hown;exact⟨es,Ga,(hW.block b Gc).trans hb,Ft,hs,hD⟩
 exact x2q n l Bm b nn D0 J hY W hJ ((hW.cell (p:=⟨Bm,0,none⟩) hBm).trans hm) Gb h0 hn
theorem y2t(mb:Option Nat) w :
  () 185 #[.map mb] w fun e w'=>e=.returned (.func (.func 250) #[] #[(w,0)])/\w'=w.alloc (.cells #[.map mb] 271):=by
 go_enter Tryz.func185,Tryz.ntmps185
 go_wp2;go_ret;exact⟨rfl,rfl⟩
def y1y : Code := (Code.region 2 #[{ dst := some 5,op := Op.assign (Operand.tmp 7),type := 3,pos := "iter.go:51",after := #[],guard := none }] false)
def x1w : Code := (Code.block 1 (Code.region 3 #[{ dst := some 8,op := Op.load (34) (Operand.tmp 2),type := 34,pos := "iter.go:52",after := #[],guard := none },{ dst := some 9,op := Op.move (Operand.tmp 5),type := 3,pos := "iter.go:52",after := #[],guard := none },{ dst := some 10,op := Op.buildSlice (34) 1 #[(0,Operand.tmp 9)],type := 34,pos := "iter.go:52",after := #[{ on := 1,ground := Ground.data }],guard := none },{ dst := some 11,op := Op.call { callee := Callee.builtin Builtin.append,args := #[Operand.tmp 8,Operand.tmp 10],argTypes := #[34,34] },type := 34,pos := "iter.go:52",after := #[{ on := 0,ground := Ground.data },{ on := 2,ground := Ground.data }],guard := none },{ dst := none,op := Op.store (34) (Operand.tmp 2) (Operand.tmp 11),type := 0,pos := "iter.go:52",after := #[{ on := 3,ground := Ground.data },{ on := 3,ground := Ground.chain },{ on := 0,ground := Ground.phase },{ on := 1,ground := Ground.phase },{ on := 2,ground := Ground.phase },{ on := 3,ground := Ground.phase }],guard := none }] false))
def z6e(fn:FuncId)(sv:Value)(Bs D:Nat)(st:LoopState)(pend:Option Code):Loop :=
 { state:=st,pending:=pend,fn,tmps:=#[((),()),sv,(Bs,0),undef,((),()),undef,sv,undef,undef,undef,undef,undef,undef],params:=#[7],assign:=y1y,body:=x1w,defers:=D }
structure x8x(w0:World)(fn:FuncId)(sv:Value)(Bs l D:Nat)(ss:List Int)(W:World):Prop where
 box:∃v,W.heap[Bs]?=some (.cells #[v] (34) (0,0))/\W.ownsRow w0 (3) 1 v ss.length (ss.map encI)/\(v=.slice none 0 0↔ss=[])
 L:W.heap[l]?=some (.loop (z6e fn sv Bs D .ready none))
 K:W.heap[D]?=some (.deferred (some []))
 below:Blw w0 W
theorem x6p w0 fn sv Bs l D B (hB:w0.heap.size<=B):AbidesFrom B (x8x w0 fn sv Bs l D):=fun s W W' row h hg hrow=>by
 have Ga:∀r,row=some r->∃o:Obj,W.heap[r]?=some o/\o.isWalk=true:=fun r e=>(hrow r e).2
 obtain⟨v,hv,hr,hn⟩:=h.box;exact⟨⟨v,(grownBy_keeps hg Ga hv rfl).trans hv,ownsRow_abides_a hr hg Ga,hn⟩,(grownBy_keeps hg Ga h.L rfl).trans h.L,(grownBy_keeps hg Ga h.K rfl).trans h.K,
  h.below.grown hg h.below.size (fun k e=>Nat.le_trans hB (hrow k e).1)⟩
theorem w4o m w0 fn (hfn:Fence.wide.fn fn) sv Bs l D (hBl:Bs≠l) (hDl:D≠l) (hDB:D≠Bs) (h0B:w0.heap.size<=Bs) (h0l:w0.heap.size<=l)
  N (hN:N<=maxLen) (hNb:N*8<=140737488355328) (ss:List Int) x W (h:x8x w0 fn sv Bs l D ss W) (hlen:ss.length<N) :
  YieldAt Fence.wide m Tryz.prog l #[encI x] W fun e W'=>e=.returned true/\x8x w0 fn sv Bs l D (ss++[x]) W'/\KeepsWalks W W':=by
 have Gh:(34:Nat)≠3:=by decide
 obtain⟨i0,hi,G8,G9,GA⟩:=info_parts y6r;obtain⟨v,hv,Gi,_⟩:=h.box;refine⟨fn,#[((),()),sv,(Bs,0),undef,((),()),undef,sv,encI x,undef,undef,undef,undef,undef],y1y,x1w,by simpa[z6e] using run_yield (P:=Tryz.prog) (args:=#[encI x]) h.L rfl,roundIn_of_wpIn hfn ?_⟩;have hl:l<W.heap.size:=(Array.getElem?_eq_some_iff.1 h.L).1;have G1:=run_beginRound (P:=Tryz.prog) h.L rfl;obtain⟨W2,Gg⟩:∃W2,W.putObj l (.loop { z6e fn sv Bs D .ready none with state := .busy })=W2:=⟨_,rfl⟩
 rw[Gg]at G1;have Gz:W.grownBy W2 (some l):=by rw[<- Gg];exact grownBy_putObj_a _ _ _
 have G3:KeepsWalks W W2:=by rw[<- Gg];exact KeepsWalks.putObj _ h.L rfl
 have Gn:W2.heap[Bs]?=some (.cells #[v] (34) (0,0)):=by rw[<- Gg];exact(World.putObj_heap_other hBl).trans hv
 have Gr:W2.heap[D]?=some (.deferred (some [])):=by rw[<- Gg];exact(World.putObj_heap_other hDl).trans h.K
 have Gs:W2.heap[l]?=some (.loop { z6e fn sv Bs D .ready none with state := .busy }):=by rw[<- Gg];exact World.putObj_heap_same hl
 have Gb:W2.ownsRow w0 (3) 1 v ss.length (ss.map encI):=Gi.kept Gz (ownsRow_ne_a Gi h.L (fun cur e=>by first|cases e|exact Gh (Obj.cells.inj e).2.1));have Gl:Blw w0 W2:=h.below.grown Gz h.below.size (fun k e=>by cases e;exact h0l);obtain⟨GB,GD⟩:=cell_of_box_a Gn;have Gp:Bs<W2.heap.size:=(Array.getElem?_eq_some_iff.1 Gn).1;have G5:l<W2.heap.size:=(Array.getElem?_eq_some_iff.1 Gs).1;have Gq:D<W2.heap.size:=(Array.getElem?_eq_some_iff.1 Gr).1;have Gc:∀{j:Nat}{o:Obj},W2.heap[j]?=some o->(∀cur,o≠.cells cur (3) (0,0))->some j≠v.ownBlock:=fun hj hno=>by
  rcases ownsRow_ne_a Gb hj hno with e|e
  ·rw[e];simp
  ·exact fun e'=>e e'.symm
 clear Gg;unfold y1y;gi_wp2_with gi_round_op_a
 unfold x1w;gi_wp2_with (first
  |(
    gi_at_builtin;refine wpListIn_append_own _ rfl _ _ (34) rfl w0 (3) i0 () 1 8 Tryz.underlying34 hi G8 G9 GA rfl (by decide) _ _ _ rfl (Gb.alloc _) (W2,0) 1 1 [encI x] rfl rfl (cell_one_new _ _ _) (by simp[Value.oneCell',encI]) oM oM (by have:=Gl.size;simp;omega) ?_;intro v' w3 hown' hg3 hnil3
    have Gu:w3.heap[Bs]?=some (.cells #[v] (34) (0,0)):=(hg3.block Bs (by simp;omega) (Gc Gn (fun cur e=>by first|cases e|exact Gh (Obj.cells.inj e).2.1))).trans ((Below.heap_alloc _ _ Bs Gp).trans Gn);obtain⟨GC,GE⟩:=cell_of_box_a Gu;obtain⟨g',Ga,Gd,rfl,Gt,G2,GF,GG,GH,GI⟩:∃g' Ga Gd,v'=↑(g',0,ss.length+1,Ga)/\w0.heap.size<=g'/\w3.heap[g']?=some (.cells Gd (3) (0,0))/\ss.length+1<=Ga/\Ga<=maxLen/\Gd.size=Ga*1/\Gd.toList.take ((ss.length+1)*1)=ss.map encI++[encI x]:=by
     rcases hown'.2 with ⟨_,h0⟩|h'
     ·exact absurd h0 oM
     ·exact h'
    go_frame)
  |gi_round_op_a)
 have Ge:(W2.alloc (.cells #[encI x] (3))).grownBy w3 v.ownBlock:=hg3;have Gw:w3.heap[l]?=some (.loop { z6e fn sv Bs D .ready none with state := .busy }):=(Ge.block l (by simp;omega) (Gc Gs (fun cur e=>by first|cases e|exact Gh (Obj.cells.inj e).2.1))).trans ((Below.heap_alloc _ _ l G5).trans Gs);have Gv:w3.heap[D]?=some (.deferred (some [])):=(Ge.block D (by simp;omega) (Gc Gr (fun cur e=>by first|cases e|exact Gh (Obj.cells.inj e).2.1))).trans ((Below.heap_alloc _ _ D Gq).trans Gr);obtain⟨w4,Gj⟩:∃w4,w3.setCell (Bs,0) (g',0,ss.length+1,Ga)=w4:=⟨_,rfl⟩
 rw[Gj];have Gm:w3.grownBy w4 (some Bs):=by rw[<- Gj];exact grownBy_setCell0_a _ _ _
 have G7:w4.heap[Bs]?=some (.cells #[(g',0,ss.length+1,Ga)] (34) (0,0)):=by rw[<- Gj];exact heap_setCell_box_a _ Gu
 have Gk:w4.heap[l]?=some (.loop { z6e fn sv Bs D .ready none with state := .busy }):=(Gm.block l (Array.getElem?_eq_some_iff.1 Gw).1 (fun e=>hBl (by cases e;rfl))).trans Gw;have G0:w4.heap[D]?=some (.deferred (some [])):=(Gm.block D (Array.getElem?_eq_some_iff.1 Gv).1 (fun e=>hDB (by cases e;rfl))).trans Gv;have Gf:=hown'.kept Gm (ownsRow_ne_a hown' Gu (fun cur e=>by first|cases e|exact Gh (Obj.cells.inj e).2.1));have G6:l<w4.heap.size:=(Array.getElem?_eq_some_iff.1 Gk).1;have Gx:Blw w0 w3:=(Gl.alloc Gl.size _).grown Ge (by have:=Gl.size;simp;omega) (fun k e=>(Gb.lt k e).1);have Gy:Blw w0 w4:=Gx.grown Gm Gx.size (fun k e=>by cases e;exact h0B);have G4:KeepsWalks W w4:=((G3.trans (KeepsWalks.alloc _ _)).trans (KeepsWalks.of_grownBy Ge (ownsRow_not_walk_a (Gb.alloc _)))).trans (by rw[<- Gj];exact KeepsWalks.setCell _ _ _);clear Gj;refine⟨_,_,run_endRound none Gk,rfl,⟨⟨_,(World.putObj_heap_other hBl).trans G7,?_,by simp⟩,World.putObj_heap_same G6,(World.putObj_heap_other hDl).trans G0,Gy.grown (grownBy_putObj_a _ _ _) Gy.size (fun k e=>by cases e;exact h0l)⟩,G4.trans (KeepsWalks.putObj _ Gk rfl)⟩;have:=Gf.kept (grownBy_putObj_a w4 l (.loop { { z6e fn sv Bs D .ready none with state := .busy } with state:=if (none:Option Code).isNone then .ready else .done,pending:=none })) (ownsRow_ne_a Gf Gk (fun cur e=>by first|cases e|exact Gh (Obj.cells.inj e).2.1));simpa using this
theorem y6b n (hn:2<=n) g lb (eg:∀args w,(callFunc g args).run Tryz.prog w=.ok (.enter g args) w)
  (S:List Int->Prop) N (hN:N<=maxLen) (hNb:N*8<=140737488355328) w (hseq:SeqGives Fence.wide (n-1) Tryz.prog g lb encI S N w) :
  CallsIn Fence.wide n Tryz.prog (299) #[((),()),.func (.func g) #[] lb] w fun e w'=>∃(v:Value)(ss:List Int),e=.returned v/\S ss/\w'.ownsRow w (3) 1 v ss.length (ss.map encI)/\(v=.slice none 0 0↔ss=[])/\Blw w w':=by
 have h1:1<=n:=oM;have Gn:(34:Nat)≠3:=by decide
 have Gp:Fence.wide.round=none:=rfl;refine callsIn_of_wp_marks Tryz.func299 rfl trivial ?_ Gp;simp only[Tryz.ntmps299,List.size_toArray,List.length_cons,List.length_nil,Nat.reduceAdd,Nat.reduceSub,Array.replicate_succ,Array.replicate_zero,List.push_toArray,List.append_toArray,List.nil_append,List.cons_append];gi_wp2
 refine wpIn_rangeFunc ?_;intro fn hfn;rw[Gp];obtain⟨W0,Gf⟩:∃W0,w.alloc (.cells #[((),())] (34))=W0:=⟨_,rfl⟩
 have Gq:W0.heap.size=w.heap.size+1:=by rw[<- Gf];simp
 have Gr:W0.heap[w.heap.size]?=some (.cells #[((),())] (34) (0,0)):=by rw[<- Gf];exact World.alloc_heap_new w _
 have Gg:Blw w W0:=by rw[<- Gf];exact(Below.refl _ w).alloc (nL _) _
 rw[Gf];obtain⟨W1,Gb⟩:∃W1,(W0.alloc (.deferred (some []))).alloc (.loop (z6e fn (.func (.func g) #[] lb) w W0 .ready none))=W1:=⟨_,rfl⟩
 have Gj:∀k,k<W0.heap.size->W1.heap[k]?=W0.heap[k]?:=fun k hk=>by
  rw[<- Gb];exact(Below.heap_alloc _ _ k (by simp;omega)).trans (Below.heap_alloc _ _ k hk)
 have Gh:Blw w W1:=by rw[<- Gb];exact(Gg.alloc Gg.size _).alloc (by have:=Gg.size;simp;omega) _
 have Gv:W1.heap.size=W0.heap.size+2:=by rw[<- Gb];simp
 have hM:x8x w fn (.func (.func g) #[] lb) w (W0.heap.size+1) W0 [] W1 :=
  ⟨⟨_,(Gj w oM).trans Gr,⟨rfl,.inl ⟨rfl,rfl⟩⟩,by simp⟩,
   by rw[<- Gb];have:=World.alloc_heap_new (W0.alloc (.deferred (some []))) (.loop (z6e fn (.func (.func g) #[] lb) w W0 .ready none));rwa[World.size_alloc]at this,
   by rw[<- Gb];exact(Below.heap_alloc _ _ _ (by simp)).trans (World.alloc_heap_new W0 _),Gh⟩
 refine⟨W0.heap.size+1,[{ target := .collected W0,args:=#[] }],W1,{ target := .fn (.func g) lb,args:=#[.func (.yield (W0.heap.size+1)) #[] #[]] },W1,g,
  #[.func (.yield (W0.heap.size+1)) #[] #[]]++lb,W1,?_,?_,?_,?_,fun _=>h1,?_⟩
 ·rw[<- Gb];exact run_enterLoop_outer _ _ _ _ _
 ·simp[resolve,go_sem]
 ·intro f' hf';simp[Target.leads]at hf';subst hf';exact trivial
 ·simp[invoke,go_sem,eg]
 ·refine(hseq (W0.heap.size+1) (x8x w fn (.func (.func g) #[] lb) w (W0.heap.size+1) W0) W1 Gh (x6p _ _ _ _ _ _ _ Gh.size)
   (fun pre x W hJ hl=>w4o (n-1-1) w fn hfn _ w (W0.heap.size+1) W0 oM oM oM (nL _) oM N hN hNb pre x W hJ hl) hM).mono ?_
  rintro e W2⟨⟨v0,rfl⟩,ss,hS,h2⟩;obtain⟨v,hv,Ge,Gi⟩:=h2.box;have Gd:=run_endLoop (P:=Tryz.prog) h2.L (by simp[z6e]);obtain⟨W3,Gc⟩:∃W3,W2.putObj (W0.heap.size+1) (.loop { z6e fn (.func (.func g) #[] lb) w W0 .ready none with state := .exhausted })=W3:=⟨_,rfl⟩
  rw[Gc]at Gd;have Gm:W2.grownBy W3 (some (W0.heap.size+1)):=by rw[<- Gc];exact grownBy_putObj_a _ _ _
  have Gs:W3.heap[w.heap.size]?=some (.cells #[v] (34) (0,0)):=by rw[<- Gc];exact(World.putObj_heap_other oM).trans hv
  have Gk:W3.heap[W0.heap.size]?=some (.deferred (some [])):=by rw[<- Gc];exact(World.putObj_heap_other oM).trans h2.K
  have Ga:=Ge.kept Gm (ownsRow_ne_a Ge h2.L (fun cur e=>by first|cases e|exact Gn (Obj.cells.inj e).2.1));have Gl:Blw w W3:=h2.below.grown Gm h2.below.size (fun k e=>by cases e;omega);obtain⟨Gt,Gu⟩:=cell_of_box_a Gs;clear Gc;refine⟨none,W3,Gd,?_⟩;gi_wp2
  rw[<- Gq];refine⟨by simp,.inl ⟨_,_,rfl,run_takeDeferred Gk,?_⟩⟩;exact⟨_,results_tmp rfl _ _ _,v,ss,rfl,hS,Ga.kept (grownBy_putObj_a _ _ _) (ownsRow_ne_a Ga Gk (fun cur e=>by first|cases e|exact Gn (Obj.cells.inj e).2.1)),Gi,Gl.grown (grownBy_putObj_a _ _ _) Gl.size (fun k e=>by cases e;omega)⟩
theorem y0h g lb (eg:∀args w,(callFunc g args).run Tryz.prog w=.ok (.enter g args) w)
  (S:List Int->Prop) N (hN:N<=1000000) w (hseq:SeqGives Fence.wide 9 Tryz.prog g lb encI S N w) :
  () 248 #[.func (.func g) #[] lb] w fun e w'=>∃(v:Value)(ss:List Int),e=.returned v/\S ss/\w'.ownsRow w 3 1 v ss.length (ss.map encI)/\(v=.slice none 0 0↔ss=[])/\Blw w w':=by
 have HA:=hid ((callsIn_wide (n:=10)).1 (y6b 10 oM g lb eg S N (by unfold maxLen;omega) oM w hseq));go_enter Tryz.func248,Tryz.ntmps248
 go_wp2_with (go_at_call 299;refine HA.out.mono ?_;rintro e w'⟨v,ss,rfl,hS,Gb,Ga,hb⟩)
 go_ret;exact⟨v,ss,rfl,hS,Gb,Ga,hb⟩
theorem x2o w:() 328 #[((),()),(),()] w fun e w'=>e=.returned (.tuple #[])/\w=w':=by
 go_enter Tryz.func328,Tryz.ntmps328
 go_wp2;refine wp_loop_rounds 1 ?_;rw[rounds_succ];go_wp2;go_end0;exact⟨rfl,rfl⟩
theorem w6p(lim:Int)(w:World):() 300 #[((),()),(),(),[lim]] w fun e w'=>e=.returned (.tuple #[])/\w=w':=by
 go_enter Tryz.func300,Tryz.ntmps300
 go_wp2;refine wp_loop_rounds 1 ?_;rw[rounds_succ];go_wp2_with fail
 refine(x2o _).mono ?_;rintro e w1⟨rfl,rfl⟩;go_wp2;refine bodyPost_ret (results_none rfl _ _ _) rfl ?_;exact⟨rfl,rfl⟩
theorem x0g(w:World):() 249 #[((),())] w fun e w'=>e=.returned (.tuple #[])/\w=w':=by
 go_enter Tryz.func249,Tryz.ntmps249
 go_wp2_with (first
  |(go_at_call 300;refine(w6p _ _).mono ?_;rintro e w1⟨rfl,rfl⟩)
  |go_in)
 go_end0;exact⟨rfl,rfl⟩
theorem x3m g lb (eg:∀args w,(callFunc g args).run Tryz.prog w=.ok (.enter g args) w)
  N (hN:N<=1000000) w (hseq:SeqGives Fence.wide 9 Tryz.prog g lb encI (fun ss=>ss=[]) N w) :
  () 184 #[.func (.func g) #[] lb] w fun e w'=>e=.returned ((),())/\Blw w w':=by
 have HC:=hid (y0h g lb eg _ N hN w hseq);go_enter Tryz.func184,Tryz.ntmps184
 go_wp2_with (go_at_call 248;refine HC.out.mono ?_;rintro e W⟨v,ss,rfl,rfl,Gb,Ga,hb⟩;refine stop ?_)
 unfold Stop;have hv:v=.slice none 0 0:=Ga.2 (by simp);subst hv;have HB:=hid hb;clear Gb hb Ga HC hseq;go_wp2_with (go_at_call 249;refine(x0g _).mono ?_;rintro e w1⟨rfl,rfl⟩)
 go_ret;exact⟨rfl,HB.out⟩
theorem v3s(W:World)(b:Nat)(D:DataW Unit){R}(hD:intKeys D=[])(ho:W.ownsMap Tryz.prog 3 R b 0 D)(hn:Maps.size D<=1000):
  () 184 #[.func (.func 250) #[] #[(W,())]] (W.alloc (.cells #[.map (some b)] 271)) fun e w'=>e=.returned ((),())/\Below (W.alloc (.cells #[.map (some b)] 271)).heap.size (W.alloc (.cells #[.map (some b)] 271)) w':=by
 have h:=z8t 9 W.heap.size b 0 D (W.alloc (.cells #[.map (some b)] 271)) (by simp) ((Blk.new W 271 #[.map (some b)]).cell 0) (ho.alloc _) oM;have e:(fun ss:List Int=>ss.Perm (intKeys D))=fun ss=>ss=[]:=by
  funext ss
  rw[hD];exact propext List.perm_nil
 rw[e]at h;exact x3m _ _ (enters_of Tryz.func250 (by kernel_rfl) rfl) (Maps.size D) oM _ h
end
section
open Go.RowKit Go.Maps Go.Shelf
def chW(D:DataW Unit)(ks:List Nat):List (Nat×Nat):=ks.map fun o=>(o,(cAt D o).1)
theorem w4x(D:DataW Unit)(ks:List Nat)(k:Nat)(hk:k<ks.length):chW D (ks.take (k+1))=chW D (ks.take k)++[(ks[k],(cAt D ks[k]).1)]:=by
 unfold chW;rw[List.take_succ_eq_append_getElem hk,List.map_append];rfl
def v2b(w:World)(D:DataW Unit)(e:Ending)(w':World):Prop:=∃ks,ks.Perm (z2w D)/\w4a w (chW D ks) e w'
end
section
open Go.RowKit Go.Maps
def OIdx(w:World)(b n:Nat)(ws:List (Nat×Nat))(k:Nat):Prop:=∃D:DataW Unit,w.ownsMap Tryz.prog 32 (plainElem Tryz.prog 3) b n D/\∀i (h:i<ws.length),i<k->D.atKey (kU (ws[i]).1) (.lit (.int .i64 0))=.lit (.int .i64 i)
def Diff(ws:List (Nat×Nat)):Prop:=∀i j (hi:i<ws.length) (hj:j<ws.length),i≠j->(ws[i]).1≠(ws[j]).1
theorem OIdx.new(w:World)(ws:List (Nat×Nat)):OIdx (w.alloc (.map #[] 0)) w 0 ws 0:=⟨_,World.ownsMap_made w _ _ _,fun i _ h=>absurd h oM⟩
theorem OIdx.look{w:World}{b n k:Nat}{ws:List (Nat×Nat)}(h:OIdx w b n ws k){i:Nat}(hl:i<ws.length)(hk:i<k)(hx:(ws[i]).1<18446744073709551616):
  (Instr.lookup 412 (.map (some b)) (.int .u64 ((ws[i]).1:Int)) false).run Tryz.prog w=.ok [i] w:=by
 obtain⟨D,ho,hd⟩:=h;obtain⟨c,Ga,hc,_⟩:=ho.lookup_int z1g Tryz.underlying412 Tryz.underlying3 (by kernel_rfl) (keyU hx);rw[hd i hl hk]at hc;injection hc with hc
 injection hc with _ hc
 rw[Ga,<- hc]
theorem OIdx.add{w:World}{b n k:Nat}{ws:List (Nat×Nat)}(h:OIdx w b n ws k)(hn:n<maxLen)(hd':Diff ws)(hl:k<ws.length)(hx:(ws[k]).1<18446744073709551616)(hk:k<=1000000):
  ∃w',(Instr.mapUpdate 412 (.map (some b)) (.int .u64 ((ws[k]).1:Int)) [k]).run Tryz.prog w=.ok () w'/\OIdx w' b (n+1) ws (k+1)/\w.grownBy w' (some b):=by
 obtain⟨D,ho,hd⟩:=h;obtain⟨w',Ga,Gb,hg⟩:=ho.update z1g Tryz.underlying412 hn (keyU hx) (plainElem_int Tryz.underlying3 (a:=(k:Int)) (by
  have hm:IntKind.i64.min= -9223372036854775808:=by decide
  have hx:IntKind.i64.max=9223372036854775807:=by decide
  simp only[Lit.wf,hm,hx,Bool.and_eq_true,decide_eq_true_eq];omega))
 refine⟨w',Ga,⟨_,Gb,fun i hi hik=>?_⟩,hg⟩;by_cases e:i=k
 ·subst e
  rw[atKey_put_same ho.isMap (z4z _)]
 ·rw[atKey_put_other (z7f (hd' i k hi hl e)),hd i hi oM]
theorem OIdx.alloc{w b n k ws}(h:OIdx w b n ws k)(o:Obj):OIdx (w.alloc o) b n ws k:=by
 obtain⟨D,ho,hd⟩:=h;exact⟨D,ho.alloc o,hd⟩
theorem OIdx.kept{w w':World}{b n k:Nat}{ws:List (Nat×Nat)}{row:Option Nat}(h:OIdx w b n ws k)(hg:w.grownBy w' row)(hne:some b≠row):OIdx w' b n ws k:=by
 obtain⟨D,ho,hd⟩:=h;exact⟨D,ho.kept hg hne,hd⟩
theorem OIdx.ne_own{w:World}{b n k:Nat}{ws:List (Nat×Nat)}(h:OIdx w b n ws k){base:Nat}{e:TypeId}{size m:Nat}{v:Value}{xs:List Value}(ho:w.ownsRow base e size v m xs):some b≠v.ownBlock:=by
 obtain⟨D,hm,_⟩:=h;exact z2j hm ho
theorem w5y A n c ws w (h:z0d w w.heap.size 2 A n (z0a ws)) (hd:Diff ws) (hv:∀i (h:i<ws.length),(ws[i]).1<18446744073709551616) (hn:n<=1000) :
  () 257 #[.slice A n c] w (w4a w ws):=by
 obtain⟨i0,Gq,Gw,Gx,Gy⟩:=info_parts z1l;have HR:=hid h;have HD:=hid hd;have HV:=hid hv;have Gf:=hid (show ws.length=n by have:=h.1;rw[z1a]at this;omega);have Gt:∀W,(Instr.makeMap 412 none).run Tryz.prog W=.ok (.map (some W.heap.size)) (W.alloc (.map #[] 0)):=fun _=>rfl
 have Gd:Hid (OIdx (w.alloc (.map #[] 0)) w.heap.size 0 ws 0):=hid (OIdx.new w ws);have Gb:Hid (Blw w (w.alloc (.map #[] 0))):=hid ((Below.refl _ w).alloc (nL _) _);clear h hd hv;go_enter Tryz.func257,Tryz.ntmps257
 go_wp2;clear Gt;go_loopw [12] (fun i wr=>∃k:Nat,k<=n/\i=↑[k]/\Hid (OIdx wr w.heap.size k ws k)/\Hid (Blw w wr)) (fun i _=>n-(Go.RowKit.intOf i).toNat)
 case atStart=>exact⟨0,Nat.zero_le _,rfl,Gd,Gb⟩
 case round =>
  clear Gd Gb;obtain⟨k,hk,rfl,HI,HB⟩:=hrel;by_cases hlt:k<n
  ·obtain⟨hl,b,G1,hA,Gp,f0,f1⟩:=z3a (HR.out.below HB.out) hlt
   subst hA;have Gz:(0:Int)<=(k:Int):=oM;have G0:(k:Int)<(n:Int):=oM;obtain⟨w3,Gv,Gk,Gj⟩:=(HI.out.alloc (.cells #[.int .u64 ((ws[k]).1:Int),.int .u64 ((ws[k]).2:Int)] 117)).add (by unfold maxLen;omega) HD.out hl (HV.out k hl) oM;have Gm:=hid Gk;have Gl:=hid ((HB.out.alloc HB.out.size (.cells #[.int .u64 ((ws[k]).1:Int),.int .u64 ((ws[k]).2:Int)] 117)).grown Gj (Nat.le_trans HB.out.size (by simp)) (fun g hg=>by cases hg;exact nL _));generalize ws[k]=e at*;clear Gk Gj HI HB;go_wp2;go_roundw
   case rel=>exact⟨k+1,oM,by go_num,Gm,Gl⟩
   case measure=>simp[Go.RowKit.intOf];omega
  ·have Gr:k=n:=oM
   subst Gr;have Gg:Hid (wr.ownsRow w.heap.size 117 2 ((),()) 0 (z0a (ws.take 0))):=hid (World.ownsRow_nil _ _ _ _);go_wp2;go_loopw [6,24] (fun l i wr=>∃(q:Nat)(A1:Option Addr)(c1:Nat),q<=k/\i=↑[q]/\l=.slice A1 q c1/\Hid (wr.ownsRow w.heap.size 117 2 (.slice A1 q c1) q (z0a (ws.take q)))/\Hid (OIdx wr w.heap.size k ws k)/\Hid (Blw w wr)) (fun _ i _=>k-(Go.RowKit.intOf i).toNat)
   case atStart=>exact⟨0,_,_,Nat.zero_le _,rfl,rfl,Gg,HI,HB⟩
   case round =>
    clear HI HB Gg;obtain⟨q,A1,c1,hq,rfl,rfl,HO,HI,HB⟩:=hrel;by_cases hlt2:q<k
    ·obtain⟨hl,b,G1,hA,Gp,f0,f1⟩:=z3a (HR.out.below HB.out) hlt2
     subst hA;have Gz:(0:Int)<=(q:Int):=oM;have G0:(q:Int)<(k:Int):=oM;have Gs:=(HI.out.alloc (.cells #[.int .u64 ((ws[q]).1:Int),.int .u64 ((ws[q]).2:Int)] 117)).look hl hlt2 (HV.out q hl);have Gn:=hid (x0m ws q hl);generalize ws[q]=e at*;have G2:w.heap.size<=wr.heap.size:=HB.out.size;go_wp2_with (at_builtin;refine stop ?_)
     unfold Stop;have Gi:=hid (z0j (wr.alloc (.cells #[e.1,e.2] 117)) _ rfl [e.1,e.2] 1 2 117 _ rfl rfl);rw[World.size_alloc]at Gi;refine z0m _ (.tmp 35) (.tmp 37) 118 rfl rfl w.heap.size 117 i0 _ 2 16 Tryz.underlying118 Gq Gw Gx Gy rfl oM (.slice A1 q c1) q (z0a (ws.take q)) rfl ((HO.out.alloc _).alloc _) (wr.heap.size+1+1) (some (wr.heap.size+1,())) 1 1 [e.1,e.2] rfl Gi.out (z2k _ _) (by unfold maxLen;omega) oM (by simp;omega) ?_;intro A3 n3 c3 w8 hn3 ho3 hg3 hb3;have Ga:n3=q+1:=oM;subst Ga;have Gh:Hid (w8.ownsRow w.heap.size 117 2 (.slice A3 (q+1) c3) (q+1) (z0a (ws.take (q+1)))):=hid (by rw[Gn.out,z1o];exact ho3);have Ge:Hid (OIdx w8 w.heap.size k ws k):=hid (((HI.out.alloc _).alloc _).kept hg3 (HI.out.ne_own HO.out));have Gc:=hid (((HB.out.alloc HB.out.size _).alloc (by simp;omega) _).trans hb3);clear hn3 ho3 hg3 hb3 Gs;go_wp2;go_roundw
     case rel =>
      first
       |exact⟨q+1,_,_,oM,by go_num,rfl,Gh,Ge,Gc⟩
       |(
         repeat apply Exists.intro
         refine⟨?_,rfl⟩;exact⟨q+1,_,_,oM,by go_num,rfl,Gh,Ge,Gc⟩)
     case measure=>simp[Go.RowKit.intOf];omega
    ·have Gu:q=k:=oM
     subst Gu;go_wp2;go_ret;have h:=HO.out;rw[List.take_of_length_le (by rw[Gf.out];exact nL _)]at h;exact⟨_,_,_,rfl,Gf.out.symm,h,HB.out⟩
end
section
open Go.RowKit
theorem w9f{w B n A l}(h:z0d w B 1 A n (u8s l)){k}(hk:k<n):
  ∃(hl:k<l.length)(b off:Nat),A=some (b,off)/\b<B/\w.cell? (b,off+k)=some ↑[[l[k]]]:=by
 have hl:k<l.length:=by have:=h.1;simp[u8s]at this;omega
 obtain⟨b,off,hA,hb,hc⟩:=h.plain oM oM;exact⟨hl,b,off,hA,hb,hc k _ (by simp[u8s,hl])⟩
theorem z6j{w g n cs}{t:TypeId}{l}(h:Blk w g t cs)(hl:l.length=n)(he:∀(j:Nat)(u:Value),l[j]?=some u->cs[j]?=some u):z0d w w 1 (some (g,0)) n l:=by
 refine⟨oM,fun hn=>⟨_,rfl,h.lt,fun j u hu=>?_⟩⟩;have h1:=h.cell (0+j);have e:((g,0):Addr).add j=(g,0+j):=by
  unfold Addr.add;split
  ·rename_i h;subst h;rfl
  ·rfl
 rw[e,h1,Nat.zero_add];exact he j u hu
theorem v3n{l b}(hl:∀x∈l,x<256)(h7:l.length<=7)(hb:b<256):bits .or .u64 (lev l:Int) (((b*2^(8*l.length):Nat):Int))=(lev (l++[b]):Int):=by
 have h1:=x5d l hl;have h2:(256:Nat)^l.length=2^(8*l.length):=by rw[Nat.pow_mul]
 rw[h2]at h1;have h3:(2:Nat)^(8*l.length)<=2^56:=Nat.pow_le_pow_right oM oM;have h4:(2:Nat)^56=72057594037927936:=by decide
 have h5:b*2^(8*l.length)<=255*2^(8*l.length):=Nat.mul_le_mul_right _ oM;rw[x5e,h2,Nat.mul_comm (2^(8*l.length)) b];rw[bits_join_low .u64 64 (by decide) wraps_u64 (8*l.length) (lev l:Int) ((b*2^(8*l.length):Nat):Int) oM (by exact_mod_cast h1) oM oM (by
  have:((b*2^(8*l.length):Nat):Int)=(b:Int)*2^(8*l.length):=by push_cast;rfl
  rw[this];exact Int.mul_emod_left _ _) oM]
 push_cast;rfl
def pkW(p:List Nat)(i j:Nat):Nat:=lev (((p.take i).drop (8*j)).take 8)
theorem w6u p j:pkW p 0 j=0:=by simp[pkW,lev]
theorem w2i{p i j}(hi:i<p.length)(h:i/8≠j):pkW p (i+1) j=pkW p i j:=by
 unfold pkW;congr 1
 rw[List.take_succ_eq_append_getElem hi];rw[List.drop_append];have hl:(p.take i).length=i:=by simp;omega
 rw[hl];rcases Nat.lt_or_gt_of_ne h with h1|h1
 ·have e1:8*j-i≥1:=oM
  have:[p[i]].drop (8*j-i)=[]:=by
   apply List.drop_eq_nil_of_le;simp;omega
  rw[this,List.append_nil]
 ·rw[List.take_append_of_le_length (by rw[List.length_drop,hl];omega)]
theorem w6t{p i}(hi:i<p.length)(hp:∀b∈p,b<256):∃l:List Nat,pkW p i (i/8)=lev l/\pkW p (i+1) (i/8)=lev (l++[p[i]])/\l.length=i%8/\∀x∈l,x<256:=by
 have hl:(p.take i).length=i:=by simp;omega
 refine⟨(p.take i).drop (8*(i/8)),?_,?_,?_,fun x hx=>hp x (List.mem_of_mem_take (List.mem_of_mem_drop hx))⟩
 ·unfold pkW
  rw[List.take_of_length_le];rw[List.length_drop,hl];omega
 ·unfold pkW
  rw[List.take_succ_eq_append_getElem hi,List.drop_append_of_le_length (by rw[hl];omega),List.take_of_length_le];rw[List.length_append,List.length_drop,hl];simp;omega
 ·rw[List.length_drop,hl];omega
theorem v1e p j:pkW p p.length j=lev ((p.drop (8*j)).take 8):=by unfold pkW;rw[List.take_length]
theorem y3j n (hn:n<=100000) w:() 234 #[[n]] w fun e w'=>e=.returned [(n+7)/8]/\w=w':=by
 by_cases h:n%8=0
 ·have e1:((n:Int)%8==0)=true:=by rw[beq_iff_eq];omega
  have e2:((n:Int)%8 != 0)=false:=by rw[bne,e1];rfl
  have e3:(n:Int).tmod 8=(n:Int)%8:=by rw[Int.tmod_eq_emod_of_nonneg oM]
  have e5:(n:Int)/8=(((n+7)/8:Nat):Int):=oM;have e6:wrap64 ((n:Int)/8)=(((n+7)/8:Nat):Int):=by rw[e5];exact IntWalk.wrap64_in _ oM
  have e4:(n:Int).tdiv 8=(((n+7)/8:Nat):Int):=by rw[Int.tdiv_eq_ediv_of_nonneg oM];omega
  generalize (n+7)/8=q at*;go_enter Tryz.func234,Tryz.ntmps234
  go_wp2;go_ret;exact⟨rfl,rfl⟩
 ·have e1:((n:Int)%8==0)=false:=by rw[beq_eq_false_iff_ne];omega
  have e2:((n:Int)%8 != 0)=true:=by rw[bne,e1];rfl
  have e3:(n:Int).tmod 8=(n:Int)%8:=by rw[Int.tmod_eq_emod_of_nonneg oM]
  have e4:(n:Int).tdiv 8+1=(((n+7)/8:Nat):Int):=by rw[Int.tdiv_eq_ediv_of_nonneg oM];omega
  have e5:(n:Int)/8+1=(((n+7)/8:Nat):Int):=oM;have e6:wrap64 ((n:Int)/8+1)=(((n+7)/8:Nat):Int):=by rw[e5];exact IntWalk.wrap64_in _ oM
  generalize (n+7)/8=q at*;go_enter Tryz.func234,Tryz.ntmps234
  go_wp2;go_ret;exact⟨rfl,rfl⟩
def v2k(w:World)(l:List Nat)(e:Ending)(w':World):Prop:=∃A m c,e=.returned (.slice A m c)/\m=l.length/\z0d w' w' 1 A m (z0g l)/\(∀ad,A=some ad->w<=ad.block)/\Blw w w'
theorem w6e n j (h:j<n):(madeCells #[[()]] n)[j]?=some (.int .u64 0):=by
 rw[<- Array.getElem?_toList,toList_madeCells_one];simp[h]
theorem x7w n:(madeCells #[[()]] n).size=n:=by rw[size_madeCells]
theorem x7x n (hn:n<=1000000) W:(Instr.makeSlice 107 [n] [n]).run Tryz.prog W=.ok (W,0,n,n) (W.alloc (.cells (madeCells #[[()]] n) 32)):=by
 obtain⟨j0,Gb,Gc,Ga,Gd⟩:=info_parts z7r;have h:=run_makeSlice (P:=Tryz.prog) W 107 32 j0 [()] Tryz.underlying107 Gb Gc .i64 .i64 (n:Int) (n:Int) oM oM (by rw[Ga];omega) (by rw[Gd];omega) oM;rw[Ga,Int.toNat_natCast,Nat.mul_one]at h;exact h
theorem w6n A n c p w (h:z0d w w 1 A n (u8s p)) (hp:∀b∈p,b<256) (hn:n<=100000) :
  () 162 #[.slice A n c] w (v2k w (z3r p)):=by
 have Gg:p.length=n:=by have:=h.1;simp[u8s]at this;omega
 have HW:=hid (y3j n hn);have HR:=hid h;have HP:=hid hp;have HL:=hid Gg;clear h hp Gg;obtain⟨q,hq⟩:∃q,(n+7)/8=q:=⟨_,rfl⟩
 have Gn:q<=100000:=oM;have Gm:n<=8*q:=oM;rw[hq]at HW;have HQ:=hid hq;clear hq;have Gl:=x7x q oM;go_enter Tryz.func162,Tryz.ntmps162
 go_wp2_with (go_at_call 234;refine(HW.out _).mono ?_;rintro e w1⟨rfl,rfl⟩)
 go_loopw [12] (fun i wr=>∃k:Nat,k<=n/\i=↑[k]/\Hid (∃cs,Blk wr w 32 cs/\cs.size=q/\∀j,j<q->cs[j]?=some (.int .u64 (pkW p k j:Int)))/\Hid (Blw w wr)) (fun i _=>n-(Go.RowKit.intOf i).toNat)
 case atStart =>
  refine⟨0,Nat.zero_le _,rfl,hid ⟨_,Blk.new w _ _,x7w q,fun j hj=>?_⟩,hid ((Below.refl _ _).alloc (nL _) _)⟩;rw[w6e q j hj,w6u];rfl
 case round =>
  obtain⟨k,hk,rfl,HC,HB⟩:=hrel;by_cases hlt:k<n
  ·obtain⟨hl,b,Gr,hA,Gh,f0⟩:=w9f (HR.out.below HB.out) hlt
   subst hA;obtain⟨cs,hB,Gc,Gb⟩:=HC.out;have Gf:k/8<q:=oM;have c0:=Gb (k/8) Gf;obtain⟨l,e1,e2,e3,e4⟩:=w6t hl HP.out;have Ga:p[k]<256:=HP.out _ (List.getElem_mem hl);have HN:Hid (∃cs',Blk (wr.setCell (w,k/8) (pkW p (k+1) (k/8))) w 32 cs'/\cs'.size=q/\∀j,j<q->cs'[j]?=some (.int .u64 (pkW p (k+1) j:Int))):=hid ⟨_,hB.set_ (k/8) _,by simp[Gc],fun j hj=>by
    rw[Array.getElem?_setIfInBounds];by_cases e:k/8=j
    ·subst e
     simp[Gc,Gf]
    ·rw[if_neg e,Gb j hj,w2i hl e]⟩
   have Gd:Hid (Blw w (wr.setCell (w,k/8) (pkW p (k+1) (k/8)))):=hid (HB.out.setCell (nL _) _);rw[e2]at HN Gd;rw[e1]at c0;have f1:wr.cell? (w,k/8)=some ↑(lev l):=by rw[hB.cell];exact c0
   have z1:wr.frozen? (w,k/8)=false:=hB.frozen _;have hx:=v3n e4 oM Ga;have HX:Hid (bits .or .u64 (lev l:Int) (IntKind.u64.wrap (((p[k]:Nat):Int)*2^(k%8*8)))=(lev (l++[p[k]]):Int)):=hid (by
    have h1:(p[k]*2^(8*l.length):Nat)<=255*2^56:=Nat.mul_le_mul oM (Nat.pow_le_pow_right oM oM);have h2:(255:Nat)*2^56=18374686479671623680:=by decide
    rw[<- hx,e3,Nat.mul_comm 8 (k%8)];rw[e3,Nat.mul_comm 8 (k%8)]at h1;have h3:(((p[k]:Nat):Int)*2^(k%8*8))=((p[k]*2^(k%8*8):Nat):Int):=by push_cast;rfl
    rw[h3,wraps_u64 _ oM oM])
   clear hx;have Gi:=hid e3;clear e1 e2 e4 hB Gb Gc c0 HC Gh e3;generalize p[k]=bt at*;have Gp:(0:Int)<=(k:Int):=oM;have Gq:(k:Int)<(n:Int):=oM;go_wp2;go_roundw
   case rel =>
    first
     |(
       refine⟨k+1,oM,by go_num,?_,?_⟩
       ·rw[HX.out];exact HN
       ·rw[HX.out];exact Gd)
     |(
       repeat apply Exists.intro
       refine⟨?_,rfl⟩;refine⟨k+1,oM,by go_num,?_,?_⟩
       ·rw[HX.out];exact HN
       ·rw[HX.out];exact Gd)
   case measure=>simp[Go.RowKit.intOf];omega
  ·have Ge:k=n:=oM
   have HF:Hid (v2k w (z3r p) (.returned (w,0,q,q)) wr):=hid (by
    obtain⟨cs,hB,Gc,Gb⟩:=HC.out;refine⟨_,q,q,rfl,?_,z6j hB ?_ ?_,fun ad h=>by injection h with h;subst h;exact nL _,HB.out⟩
    ·rw[z4g,HL.out];exact HQ.out.symm
    ·simp[z0g,z4g,HL.out,HQ.out]
    ·intro j u hu
     have hj:j<q:=by
      have h1:=(List.getElem?_eq_some_iff.1 hu).1;simp[z0g,z4g,HL.out,HQ.out]at h1;omega
     rw[Gb j hj,Ge,<- HL.out,v1e];rw[<- hu];simp[z0g,z3r,HL.out,HQ.out,hj])
   have Gj:decide ((k:Int)<(n:Int))=false:=dF;have Gk:decide (k<n)=false:=decide_eq_false hlt;clear Ge hlt hk HC;go_wp2;go_ret;exact HF.out
theorem z2e.back{w w1 w' P e}(hb:Blw w w1)(h:z2e w1 P e w'):z2e w P e w':=by
 obtain⟨A,m,c,p,he,hp,ho,Ga⟩:=h;exact⟨A,m,c,p,he,hp,z2u ho hb.size,hb.trans (Ga.mono hb.size)⟩
theorem z0x.back{a L T w w1 w' S cur F v e}(hb:Blw w w1)(h:z0x a L T w1 S cur F v e w'):z0x a L T w S cur F v e w':=by
 obtain⟨he,S',hd,hc,hg⟩:=h;exact⟨he,S',hd,(Chg.of_below hb).trans hc (Grew.refl _ _),(Grew.refl S w).trans hg hb.size⟩
theorem z0x.then_{a L T w w1 w' S S1 cur F v e}(hc1:Chg S w w1)(hg1:Grew S S1 w)(h:z0x a L T w1 S1 cur F v e w'):z0x a L T w S cur F v e w':=by
 obtain⟨he,S',hd,hc,hg⟩:=h;exact⟨he,S',hd,hc1.trans hc hg1,hg1.trans hg hc1.size⟩
theorem z9s{a L T w S cur}(h:Dev a L T w S cur 0){A m c base p ws}(ho:w.ownsRow base 225 3 (.slice A m c) m (z0h p))(hb:∀k,S k->k<base)(hp:z0y ws p)
  (hw:∀e∈ws,e.1%8=0/\e.1<64*L/\e.2<18446744073709551616) (hl:ws.length<=1000) (hT:T+(2*ws.length+1)<=1000000000) :
  () 46 #[.slice A m c,memV a] w (z0x a L (T+(2*ws.length+1)) w S (wrS cur ws) 0 ()):=by
 obtain⟨hg,hr,Gb⟩:=z1k hp hw cur;have hm:p.length=m:=by have:=ho.1;rw[z0o]at this;omega
 refine(z6k h A m c p (z0d.of_own ho) ?_ hg oM oM).mono ?_
 ·intro ad had hs
  rcases ho.2 with ⟨hv,_⟩|⟨g,cap,cs,hv,hge,_⟩
  ·injection hv with h1;rw[h1]at had;cases had
  ·injection hv with h1
   rw[h1]at had;injection had with h2
   subst h2;have:=hb _ hs;simp at this;omega
 ·rintro e w'⟨he,S',hd,hc,Ga⟩
  rw[hr]at hd;exact⟨he,S',hd.more oM oM,hc,Ga⟩
theorem z6i(w:World)(o v:Nat):z0d (w.alloc (.cells #[o,v] 117)) (w.alloc (.cells #[o,v] 117)).heap.size 2 (some (w,())) 1 (z0a [(o,v)]):=by
 rw[show(w.alloc (.cells #[o,v] 117)).heap.size=w.heap.size+1 by simp];exact z0j w _ rfl _ 1 2 117 _ rfl rfl
theorem y6u(a:DA)(s n g v:Nat)(w:World)(hB:Blk w g 316 (z1q a s n))(hs:64*s<18446744073709551616):
  () 124 #[(g,()),v] w (z2e w (z0y [(64*s,v)])):=by
 have f1:w.cell? ⟨g,1,none⟩=some ↑(64*s:Nat):=hB.cell 1;have HS:=hid (z1n _ 1 1 _ _ (z6i w (64*s) v) oM oM (fun e he=>by simp at he;subst he;exact hs));generalize 64*s=o at*;clear hB;go_enter Tryz.func124,Tryz.ntmps124
 go_wp2_with (go_at_call 81;refine HS.out.mono ?_;intro e w1 h1;have h2:=z2e.back ((Below.refl _ _).alloc (nL _) _) h1;obtain⟨A1,m1,c1,p1,rfl,Gc,Gb,Ga⟩:=h2;have Gf:=hid Gc;have Ge:=hid Gb;have Gd:=hid Ga;clear h1 Gc Gb Ga)
 go_ret;exact⟨_,_,_,_,rfl,Gf.out,Ge.out,Gd.out⟩
theorem y4a{a L T w S cur}(h:Dev a L T w S cur 0)(s n:Nat)(hn:26<=n)(hs:s+n<=L)(hT:T+3<=1000000000):
  () 42 #[memV a,[s],[n]] w (z0x a L (T+3) w S (wrS cur [(64*s,0)]) 0 ()):=by
 have HD:=hid h;have HH:=hid (y4n h s n hn hs);have Ga:Hid (Blw w (w.alloc (.cells (z1q a s n) 316))):=(Below.refl _ _).alloc (nL _) _;obtain⟨ls,Gi,Gl,cs,Gk,Gb,Gh⟩:=HD.out.below Ga.out;have hL:=Gb.hL;obtain⟨f0,_,_,_,g2⟩:=Gb.facts (j:=0) oM;have HM:=hid (y6u a s n w.heap.size 0 (w.alloc (.cells (z1q a s n) 316)) (Blk.new _ _ _) oM);have Gc:=hid Gb.lt;have HR:Hid (∀(A:Option Addr)(m c:Nat)(p:List Ins)(w1:World),z0y [(64*s,0)] p->w1.ownsRow (w.alloc (.cells (z1q a s n) 316)).heap.size 225 3 (.slice A m c) m (z0h p)->Below (w.alloc (.cells (z1q a s n) 316)).heap.size (w.alloc (.cells (z1q a s n) 316)) w1 ->
   () 46 #[.slice A m c,memV a] w1 (z0x a L (T+3) w S (wrS cur [(64*s,0)]) 0 ())):=fun A m c p w1 hp ho hb=>by
  refine(z9s ((HD.out.below Ga.out).below hb) ho Gc.out hp (fun e he=>by simp at he;subst he;omega) (by simp) (by simpa using hT)).mono ?_;intro e w2 h2;exact z0x.back (Ga.out.trans (hb.mono (by simp))) (by simpa using h2)
 have Gj:=z1x (some (a.th 0,()));clear Gb Gh h Ga HD Gc;unfold memV at*;go_enter Tryz.func42,Tryz.ntmps42
 go_wp2_with (first
  |(go_at_call 123;refine HH.out.mono ?_;rintro e w1⟨rfl,rfl⟩)
  |(go_at_call 124;refine HM.out.mono ?_;rintro e w1⟨A1,m1,c1,p1,rfl,Gf,Ge,Gd⟩;have Gg:=hid (HR.out A1 m1 c1 p1 w1 Gf Ge Gd);clear Gf Ge Gd)
  |(go_at_call 46;refine Gg.out.mono ?_;rintro e w2⟨rfl,h2⟩;have HZ:=hid h2;clear h2)
  |go_in)
 go_ret;exact⟨rfl,HZ.out⟩
theorem w5v:(Tryz.prog.info? 243).map (fun i=>(i.zero,i.size,i.bytes))=some (some (.agg #[[()],((),())]),2,32):=by kernel_rfl
def Of1(w wx:World)(pb L:Nat)(pl:List Nat)(v:Value):Prop:=∃d cb cc lb cs ls,v=↑(d,0)/\Blk wx d 111 #[(pb,0,8*L,8*L),(cb,0,8*L,cc),(lb,0,L,L),.pointer none,.pointer none,.pointer none,.pointer none,.pointer none,.pointer none,.pointer none,.pointer none,false,false,(),[()]] /\
 Blk wx cb 32 cs/\cs.size=cc/\8*L<=cc/\cc<=9223372036854775807/\RowU cs pl/\Blk wx lb 243 ls/\ls=madeCells (Value.agg #[[()],((),())]).cells (L*2)/\Blw w wx/\w<=cb/\w<=lb/\w<=d
theorem Blk.new2(w:World)(o:Obj)(t:TypeId)(cs:Array Value):Blk ((w.alloc o).alloc (.cells cs t)) (w+1) t cs:=by
 have h:=Blk.new (w.alloc o) t cs;rw[show(w.alloc o).heap.size=w.heap.size+1 by simp]at h;exact h
theorem v0y{w wx pb L d lb m1 c1 pl A1}(h0:0<L)(hd:Blk wx d 111 #[(pb,0,8*L,8*L),.slice A1 m1 c1,(lb,0,L,L),.pointer none,.pointer none,.pointer none,.pointer none,.pointer none,.pointer none,.pointer none,.pointer none,false,false,(),[()]])(ho:wx.ownsRow w.heap.size 32 1 (.slice A1 m1 c1) m1 (z0g pl))(hm:m1=8*L)
  (hl:Blk wx lb 243 (madeCells (Value.agg #[[()],((),())]).cells (L*2))) (hb:Blw w wx) (h1:w.heap.size<=lb) (h2:w.heap.size<=d):Of1 w wx pb L pl (d,0):=by
 obtain⟨g,Gi,Gh,Ge,Gf⟩:=ho.form oM;have hA:A1=some (g,0):=by injection Gh
 subst hA;obtain⟨Ga,Gc,Gd,Gg,Gj⟩:=x2z ho;have Gb:=z4p ho;subst hm;exact⟨d,g,c1,lb,Ga,_,rfl,hd,Gc,Gd,oM,oM,Gg,hl,rfl,hb,Ge,h1,h2⟩
structure OfI(w wr:World)(pb L d cb cc lb:Nat)(cs ls:Array Value)(th nt:Nat->Nat)(k:Nat):Prop where
 dev:∃dc,Blk wr d 111 dc/\dc.size=15/\dc[0]?=some (.slice (some ⟨pb,0,none⟩) (8*L) (8*L))/\dc[1]?=some (.slice (some ⟨cb,0,none⟩) (8*L) cc)/\dc[2]?=some (.slice (some ⟨lb,0,none⟩) L L)/\dc[11]?=some (.bool false)/\dc[12]?=some (.bool false)/\dc[13]?=some (.int .i64 0)/\dc[14]?=some (.int .u64 0)/\∀j,j<k->dc[3+j]?=some (.pointer (some ⟨th j,0,none⟩))
 cur:Blk wr cb 32 cs
 lin:Blk wr lb 243 ls
 thr:∀j,j<k->Blk wr (th j) 217 #[(d,0),[j],(),.map (some (nt j))]
 map:0<k->wr.ownsMap Tryz.prog 3 (plainElem Tryz.prog 32) (nt 0) 0 (.map ([]:List (Lit×DataW Unit)))
 below:Blw w wr
 gd:w<=d
 gt:∀j,j<k->w<=th j/\w<=nt j
theorem v3j{w wr pb L d cb cc lb cs ls th nt k}(H:OfI w wr pb L d cb cc lb cs ls th nt k)(hk:k<8):
  OfI w (((wr.setCell (d,3+k) (wr.heap.size+1,())).alloc (.map #[] 0)).alloc (.cells #[(d,()),[k],(),.map (some wr.heap.size)] 217)) pb L d cb cc lb cs ls (fun j=>if j=k then wr.heap.size+1 else th j) (fun j=>if j=k then wr.heap.size else nt j) (k+1):=by
 obtain⟨⟨dc,hd,Ga,e0,e1,e2,e3,e4,e5,e6,e7⟩,hcu,hli,hth,hmp,hbl,hgd,hgt⟩:=H;have hs:(wr.setCell (d,3+k) (wr.heap.size+1,())).heap.size=wr.heap.size:=by simp
 have hc:Chg (fun g=>g=d) wr (((wr.setCell (d,3+k) (wr.heap.size+1,())).alloc (.map #[] 0)).alloc (.cells #[(d,()),[k],(),.map (some wr.heap.size)] 217)):=(((Chg.refl (fun g=>g=d) wr).setCell (p:=⟨d,3+k,none⟩) (.inl rfl) _).alloc _).alloc _;refine⟨⟨_,((hd.set_ (3+k) _).alloc _).alloc _,by simpa using Ga,?_,?_,?_,?_,?_,?_,?_,?_⟩,hc.blk hcu (fun e=>hcu.ne_ hd (by decide) e),hc.blk hli (fun e=>hli.ne_ hd (by decide) e),?_,?_,?_,hgd,?_⟩
 ·rw[Array.getElem?_setIfInBounds_ne oM];exact e0
 ·rw[Array.getElem?_setIfInBounds_ne oM];exact e1
 ·rw[Array.getElem?_setIfInBounds_ne oM];exact e2
 ·rw[Array.getElem?_setIfInBounds_ne oM];exact e3
 ·rw[Array.getElem?_setIfInBounds_ne oM];exact e4
 ·rw[Array.getElem?_setIfInBounds_ne oM];exact e5
 ·rw[Array.getElem?_setIfInBounds_ne oM];exact e6
 ·intro j hj
  by_cases hjk:j=k
  ·subst hjk
   rw[Array.getElem?_setIfInBounds_self_of_lt oM];simp
  ·rw[Array.getElem?_setIfInBounds_ne oM,e7 j oM]
   simp[hjk]
 ·intro j hj
  by_cases hjk:j=k
  ·subst hjk
   have h:=Blk.new2 (wr.setCell (d,3+j) (wr.heap.size+1,())) (.map #[] 0) 217 #[(d,()),[j],(),.map (some wr.heap.size)];rw[hs]at h;simpa using h
  ·have h:=hc.blk (hth j oM) (fun e=>(hth j oM).ne_ hd (by decide) e)
   simpa[hjk] using h
 ·intro _
  by_cases hk0:0=k
  ·subst hk0
   have h:=World.ownsMap_made (H:=Unit) (wr.setCell (d,3+0) (wr.heap.size+1,())) Tryz.prog 3 (plainElem Tryz.prog 32);rw[hs]at h;have h2:=((Chg.refl Fp.no _).alloc (.cells #[(d,()),[0],(),.map (some wr.heap.size)] 217)).map h (fun h=>h);simpa using h2
  ·have h:=hc.map (hmp oM) (fun e=>z0p (hmp oM) hd e)
   simpa[hk0] using h
 ·have h1:=(hbl.setCell (p:=⟨d,3+k,none⟩) hgd (wr.heap.size+1,()))
  exact(h1.alloc h1.size _).alloc (Nat.le_trans h1.size (by simp)) _
 ·intro j hj
  have:=hbl.size;by_cases hjk:j=k
  ·simp[hjk];omega
  ·simpa[hjk] using hgt j oM
def v2h(w:World)(pb L:Nat)(pl:List Nat)(e:Ending)(w':World):Prop:=∃(d cb cc lb:Nat)(cs ls:Array Value)(th nt:Nat->Nat),e=.returned (d,0)/\OfI w w' pb L d cb cc lb cs ls th nt 8/\cs.size=cc/\8*L<=cc/\cc<=9223372036854775807/\RowU cs pl/\ls=madeCells (Value.agg #[[()],((),())]).cells (L*2)/\w<=cb/\w<=lb
theorem v3k pb L pl (hL:L<=4096) (h0:0<L) w (hp:z0d w w.heap.size 1 (some (pb,())) (8*L) (z0g pl)) :
  () 122 #[.slice (some (pb,())) (8*L) (8*L)] w (v2h w pb L pl):=by
 obtain⟨j0,Gs,Gt,Gg,Gu⟩:=info_parts w5v;have Gv:∀W:World,(Instr.makeSlice 108 [L] [L]).run Tryz.prog W=.ok (.slice (some (W,())) L L) (W.alloc (.cells (madeCells (Value.agg #[[()],((),())]).cells (L*2)) 243)):=fun W=>by
  have h:=run_makeSlice (P:=Tryz.prog) W 108 243 j0 _ Tryz.underlying108 Gs Gt .i64 .i64 (L:Int) (L:Int) oM oM (by rw[Gg];omega) (by rw[Gu];omega) oM;rw[Gg]at h;simpa using h
 have HJ:Hid (∀(wx:World)(d lb m1 c1:Nat)(A1:Option Addr),_):=fun wx d lb m1 c1 A1=>v0y (pl:=pl) (w:=w) (wx:=wx) (pb:=pb) (d:=d) (lb:=lb) (m1:=m1) (c1:=c1) (A1:=A1) h0
 generalize madeCells (Value.agg #[[()],((),())]).cells (L*2)=M at*;have HC:=hid (fun (W:World) (hW:Blw w W)=>x7e (pb,()) (8*L) (8*L) _ W ((hp.below hW).more hW.size) oM);generalize hN:8*L=N at*;have d1:(N:Int).tdiv 8=(L:Int):=by rw[Int.tdiv_eq_ediv_of_nonneg oM];omega
 have d2:(N:Int)/8=(L:Int):=oM;have wL:IntKind.i64.wrap (L:Int)=(L:Int):=by rw[IntKind.wrap_i64];omega
 have HN:=hid hN;clear hN hp;go_enter Tryz.func122,Tryz.ntmps122
 go_wp2_with fail
 go_cut [3]from 5 to 13 (fun v wx=>Hid (Of1 w wx pb L pl v))
 case first =>
  go_region_with (go_at_call 146;refine(HC.out _ (by first|exact(Below.refl _ _).drew|exact(Below.refl _ _).drew.alloc (nL _) _)).mono ?_;rintro e w1⟨A1,m1,c1,rfl,Gi,Gj,Gf⟩;have Ge:=hid Gj;have Ga:=hid Gf;have Gd:=hid Gi;clear Gj Gf Gi)
  ·go_wp2_with fail
   go_meet;exact HJ.out _ _ _ _ _ _ (Blk.new2 _ _ _ _) ((Ge.out.alloc _).alloc _) Gd.out ((Blk.new _ _ _).alloc _) (((Below.refl w.heap.size w).drew.trans Ga.out).alloc Ga.out.size _ |>.alloc (Nat.le_trans Ga.out.size (by simp)) _) Ga.out.size (Nat.le_trans Ga.out.size (by simp))
  ·go_wp2_with fail
   go_meet;have hb:Blw w w1:=((Below.refl w.heap.size w).drew.alloc (nL _) _).trans (Ga.out.mono (by simp));exact HJ.out _ _ _ _ _ _ (Blk.new _ _ _) ((z2u Ge.out (by simp)).alloc _) Gd.out (((Blk.new w.drew _ _).below Ga.out (Blk.new w.drew _ _).lt).alloc _) (hb.alloc hb.size _) (nL _) hb.size
 case rest =>
  obtain⟨d,cb,cc,lb,cs,ls,rfl,hd,hc,Gq,Gn,Gp,Gk,hl,Gh,hb,g1,g2,g3⟩:=hcut.out;have Gc:Hid (OfI w wc pb L d cb cc lb cs ls (fun _=>0) (fun _=>0) 0):=⟨⟨_,hd,rfl,rfl,rfl,rfl,rfl,rfl,rfl,rfl,fun j hj=>oM⟩,hc,hl,fun j hj=>oM,fun h=>oM,hb,g3,fun j hj=>oM⟩
  have HF:=hid (show cs.size=cc/\8*L<=cc/\cc<=9223372036854775807/\RowU cs pl/\ls=madeCells (Value.agg #[[()],((),())]).cells (L*2)/\w.heap.size<=cb/\w.heap.size<=lb from⟨Gq,Gn,Gp,Gk,Gh,g1,g2⟩);clear hcut hd hc Gk hl Gh hb HC HJ Gv d1 d2 wL;go_wp2;go_loopw [14] (fun i wr=>∃(k:Nat)(th nt:Nat->Nat),k<=8/\i=↑[k]/\Hid (OfI w wr pb L d cb cc lb cs ls th nt k)) (fun i _=>8-(RowKit.intOf i).toNat)
  case atStart=>exact⟨0,_,_,Nat.zero_le _,rfl,Gc⟩
  case round =>
   clear Gc;obtain⟨k,th,nt,hk,rfl,H⟩:=hrel;by_cases hlt:k<8
   ·obtain⟨dc,Gb,Gr,_⟩:=H.out.dev
    obtain⟨u0,Gl⟩:∃u,dc[3+k]?=some u:=⟨_,Array.getElem?_eq_getElem oM⟩
    have c0:wr.cell? (d,3+k)=some u0:=by rw[Gb.cell];exact Gl
    have c1:wr.frozen? (d,3+k)=false:=Gb.frozen _;have Gw:=Gb.lt;have Gx:∀W:World,(Instr.makeMap 215 none).run Tryz.prog W=.ok (.map (some W.heap.size)) (W.alloc (.map #[] 0)):=fun _=>rfl
    have Gy:(0:Int)<=(k:Int):=oM;have Gz:(k:Int)<8:=oM;have Gm:=hid (v3j H.out hlt);clear H Gb Gr Gl;go_wp2;exact⟨⟨k+1,_,_,oM,by go_num,Gm⟩,by simp[RowKit.intOf];omega⟩
   ·obtain rfl:k=8:=oM
    go_wp2;go_ret;exact⟨d,cb,cc,lb,cs,ls,th,nt,rfl,H.out,HF.out⟩
end
section
open Go.RowKit Go.Maps Go.Sort Go.Shelf
def y6a : Code := (Code.region 2 #[{ dst := some 5,op := Op.assign (Operand.tmp 7),type := 32,pos := "iter.go:51",after := #[],guard := none }] false)
def x9w : Code := (Code.block 1 (Code.region 3 #[{ dst := some 8,op := Op.load (107) (Operand.tmp 2),type := 107,pos := "iter.go:52",after := #[],guard := none },{ dst := some 9,op := Op.move (Operand.tmp 5),type := 32,pos := "iter.go:52",after := #[],guard := none },{ dst := some 10,op := Op.buildSlice (107) 1 #[(0,Operand.tmp 9)],type := 107,pos := "iter.go:52",after := #[{ on := 1,ground := Ground.data }],guard := none },{ dst := some 11,op := Op.call { callee := Callee.builtin Builtin.append,args := #[Operand.tmp 8,Operand.tmp 10],argTypes := #[107,107] },type := 107,pos := "iter.go:52",after := #[{ on := 0,ground := Ground.data },{ on := 2,ground := Ground.data }],guard := none },{ dst := none,op := Op.store (107) (Operand.tmp 2) (Operand.tmp 11),type := 0,pos := "iter.go:52",after := #[{ on := 3,ground := Ground.data },{ on := 3,ground := Ground.chain },{ on := 0,ground := Ground.phase },{ on := 1,ground := Ground.phase },{ on := 2,ground := Ground.phase },{ on := 3,ground := Ground.phase }],guard := none }] false))
def y1z(fn:FuncId)(sv:Value)(Bs D:Nat)(st:LoopState)(pend:Option Code):Loop :=
 { state:=st,pending:=pend,fn,tmps:=#[((),()),sv,(Bs,0),undef,((),()),undef,sv,undef,undef,undef,undef,undef,undef],params:=#[7],assign:=y6a,body:=x9w,defers:=D }
structure ApAt(w0:World)(fn:FuncId)(sv:Value)(Bs l D:Nat)(ss:List Nat)(W:World):Prop where
 box:∃v,W.heap[Bs]?=some (.cells #[v] (107) (0,0))/\W.ownsRow w0 (32) 1 v ss.length (ss.map encW)/\(v=.slice none 0 0↔ss=[])
 L:W.heap[l]?=some (.loop (y1z fn sv Bs D .ready none))
 K:W.heap[D]?=some (.deferred (some []))
 below:Blw w0 W
theorem x9x w0 fn sv Bs l D B (hB:w0.heap.size<=B):AbidesFrom B (ApAt w0 fn sv Bs l D):=fun s W W' row h hg hrow=>by
 have Ga:∀r,row=some r->∃o:Obj,W.heap[r]?=some o/\o.isWalk=true:=fun r e=>(hrow r e).2
 obtain⟨v,hv,hr,hn⟩:=h.box;exact⟨⟨v,(grownBy_keeps hg Ga hv rfl).trans hv,ownsRow_abides_a hr hg Ga,hn⟩,(grownBy_keeps hg Ga h.L rfl).trans h.L,(grownBy_keeps hg Ga h.K rfl).trans h.K,
  h.below.grown hg h.below.size (fun k e=>Nat.le_trans hB (hrow k e).1)⟩
theorem w9d m w0 fn (hfn:Fence.wide.fn fn) sv Bs l D (hBl:Bs≠l) (hDl:D≠l) (hDB:D≠Bs) (h0B:w0.heap.size<=Bs) (h0l:w0.heap.size<=l)
  N (hN:N<=maxLen) (hNb:N*8<=140737488355328) ss x W (h:ApAt w0 fn sv Bs l D ss W) (hlen:ss.length<N) :
  YieldAt Fence.wide m Tryz.prog l #[encW x] W fun e W'=>e=.returned true/\ApAt w0 fn sv Bs l D (ss++[x]) W'/\KeepsWalks W W':=by
 have Gh:(107:Nat)≠32:=by decide
 obtain⟨i0,hi,G8,G9,GA⟩:=info_parts z7r;obtain⟨v,hv,Gi,_⟩:=h.box;refine⟨fn,#[((),()),sv,(Bs,0),undef,((),()),undef,sv,encW x,undef,undef,undef,undef,undef],y6a,x9w,by simpa[y1z] using run_yield (P:=Tryz.prog) (args:=#[encW x]) h.L rfl,roundIn_of_wpIn hfn ?_⟩;have hl:l<W.heap.size:=(Array.getElem?_eq_some_iff.1 h.L).1;have G1:=run_beginRound (P:=Tryz.prog) h.L rfl;obtain⟨W2,Gg⟩:∃W2,W.putObj l (.loop { y1z fn sv Bs D .ready none with state := .busy })=W2:=⟨_,rfl⟩
 rw[Gg]at G1;have Gz:W.grownBy W2 (some l):=by rw[<- Gg];exact grownBy_putObj_a _ _ _
 have G3:KeepsWalks W W2:=by rw[<- Gg];exact KeepsWalks.putObj _ h.L rfl
 have Gn:W2.heap[Bs]?=some (.cells #[v] (107) (0,0)):=by rw[<- Gg];exact(World.putObj_heap_other hBl).trans hv
 have Gr:W2.heap[D]?=some (.deferred (some [])):=by rw[<- Gg];exact(World.putObj_heap_other hDl).trans h.K
 have Gs:W2.heap[l]?=some (.loop { y1z fn sv Bs D .ready none with state := .busy }):=by rw[<- Gg];exact World.putObj_heap_same hl
 have Gb:W2.ownsRow w0 (32) 1 v ss.length (ss.map encW):=Gi.kept Gz (ownsRow_ne_a Gi h.L (fun cur e=>by first|cases e|exact Gh (Obj.cells.inj e).2.1));have Gl:Blw w0 W2:=h.below.grown Gz h.below.size (fun k e=>by cases e;exact h0l);obtain⟨GB,GD⟩:=cell_of_box_a Gn;have Gp:Bs<W2.heap.size:=(Array.getElem?_eq_some_iff.1 Gn).1;have G5:l<W2.heap.size:=(Array.getElem?_eq_some_iff.1 Gs).1;have Gq:D<W2.heap.size:=(Array.getElem?_eq_some_iff.1 Gr).1;have Gc:∀{j:Nat}{o:Obj},W2.heap[j]?=some o->(∀cur,o≠.cells cur (32) (0,0))->some j≠v.ownBlock:=fun hj hno=>by
  rcases ownsRow_ne_a Gb hj hno with e|e
  ·rw[e];simp
  ·exact fun e'=>e e'.symm
 clear Gg;unfold y6a;gi_wp2_with gi_round_op_a
 unfold x9w;gi_wp2_with (first
  |(
    gi_at_builtin;refine wpListIn_append_own _ rfl _ _ (107) rfl w0 (32) i0 [()] 1 8 Tryz.underlying107 hi G8 G9 GA rfl (by decide) _ _ _ rfl (Gb.alloc _) (W2,0) 1 1 [encW x] rfl rfl (cell_one_new _ _ _) (by simp[Value.oneCell',encW]) oM oM (by have:=Gl.size;simp;omega) ?_;intro v' w3 hown' hg3 hnil3
    have Gu:w3.heap[Bs]?=some (.cells #[v] (107) (0,0)):=(hg3.block Bs (by simp;omega) (Gc Gn (fun cur e=>by first|cases e|exact Gh (Obj.cells.inj e).2.1))).trans ((Below.heap_alloc _ _ Bs Gp).trans Gn);obtain⟨GC,GE⟩:=cell_of_box_a Gu;obtain⟨g',Ga,Gd,rfl,Gt,G2,GF,GG,GH,GI⟩:∃g' Ga Gd,v'=↑(g',0,ss.length+1,Ga)/\w0.heap.size<=g'/\w3.heap[g']?=some (.cells Gd (32) (0,0))/\ss.length+1<=Ga/\Ga<=maxLen/\Gd.size=Ga*1/\Gd.toList.take ((ss.length+1)*1)=ss.map encW++[encW x]:=by
     rcases hown'.2 with ⟨_,h0⟩|h'
     ·exact absurd h0 oM
     ·exact h'
    go_frame)
  |gi_round_op_a)
 have Ge:(W2.alloc (.cells #[encW x] (32))).grownBy w3 v.ownBlock:=hg3;have Gw:w3.heap[l]?=some (.loop { y1z fn sv Bs D .ready none with state := .busy }):=(Ge.block l (by simp;omega) (Gc Gs (fun cur e=>by first|cases e|exact Gh (Obj.cells.inj e).2.1))).trans ((Below.heap_alloc _ _ l G5).trans Gs);have Gv:w3.heap[D]?=some (.deferred (some [])):=(Ge.block D (by simp;omega) (Gc Gr (fun cur e=>by first|cases e|exact Gh (Obj.cells.inj e).2.1))).trans ((Below.heap_alloc _ _ D Gq).trans Gr);obtain⟨w4,Gj⟩:∃w4,w3.setCell (Bs,0) (g',0,ss.length+1,Ga)=w4:=⟨_,rfl⟩
 rw[Gj];have Gm:w3.grownBy w4 (some Bs):=by rw[<- Gj];exact grownBy_setCell0_a _ _ _
 have G7:w4.heap[Bs]?=some (.cells #[(g',0,ss.length+1,Ga)] (107) (0,0)):=by rw[<- Gj];exact heap_setCell_box_a _ Gu
 have Gk:w4.heap[l]?=some (.loop { y1z fn sv Bs D .ready none with state := .busy }):=(Gm.block l (Array.getElem?_eq_some_iff.1 Gw).1 (fun e=>hBl (by cases e;rfl))).trans Gw;have G0:w4.heap[D]?=some (.deferred (some [])):=(Gm.block D (Array.getElem?_eq_some_iff.1 Gv).1 (fun e=>hDB (by cases e;rfl))).trans Gv;have Gf:=hown'.kept Gm (ownsRow_ne_a hown' Gu (fun cur e=>by first|cases e|exact Gh (Obj.cells.inj e).2.1));have G6:l<w4.heap.size:=(Array.getElem?_eq_some_iff.1 Gk).1;have Gx:Blw w0 w3:=(Gl.alloc Gl.size _).grown Ge (by have:=Gl.size;simp;omega) (fun k e=>(Gb.lt k e).1);have Gy:Blw w0 w4:=Gx.grown Gm Gx.size (fun k e=>by cases e;exact h0B);have G4:KeepsWalks W w4:=((G3.trans (KeepsWalks.alloc _ _)).trans (KeepsWalks.of_grownBy Ge (ownsRow_not_walk_a (Gb.alloc _)))).trans (by rw[<- Gj];exact KeepsWalks.setCell _ _ _);clear Gj;refine⟨_,_,run_endRound none Gk,rfl,⟨⟨_,(World.putObj_heap_other hBl).trans G7,?_,by simp⟩,World.putObj_heap_same G6,(World.putObj_heap_other hDl).trans G0,Gy.grown (grownBy_putObj_a _ _ _) Gy.size (fun k e=>by cases e;exact h0l)⟩,G4.trans (KeepsWalks.putObj _ Gk rfl)⟩;have:=Gf.kept (grownBy_putObj_a w4 l (.loop { { y1z fn sv Bs D .ready none with state := .busy } with state:=if (none:Option Code).isNone then .ready else .done,pending:=none })) (ownsRow_ne_a Gf Gk (fun cur e=>by first|cases e|exact Gh (Obj.cells.inj e).2.1));simpa using this
theorem y8j n (hn:2<=n) g lb (eg:∀args w,(callFunc g args).run Tryz.prog w=.ok (.enter g args) w)
  (S:List Nat->Prop) N (hN:N<=maxLen) (hNb:N*8<=140737488355328) w (hseq:SeqGives Fence.wide (n-1) Tryz.prog g lb encW S N w) :
  CallsIn Fence.wide n Tryz.prog (246) #[((),()),.func (.func g) #[] lb] w fun e w'=>∃(v:Value)(ss:List Nat),e=.returned v/\S ss/\w'.ownsRow w (32) 1 v ss.length (ss.map encW)/\(v=.slice none 0 0↔ss=[])/\Blw w w':=by
 have h1:1<=n:=oM;have Gn:(107:Nat)≠32:=by decide
 have Gp:Fence.wide.round=none:=rfl;refine callsIn_of_wp_marks Tryz.func246 rfl trivial ?_ Gp;simp only[Tryz.ntmps246,List.size_toArray,List.length_cons,List.length_nil,Nat.reduceAdd,Nat.reduceSub,Array.replicate_succ,Array.replicate_zero,List.push_toArray,List.append_toArray,List.nil_append,List.cons_append];gi_wp2
 refine wpIn_rangeFunc ?_;intro fn hfn;rw[Gp];obtain⟨W0,Gf⟩:∃W0,w.alloc (.cells #[((),())] (107))=W0:=⟨_,rfl⟩
 have Gq:W0.heap.size=w.heap.size+1:=by rw[<- Gf];simp
 have Gr:W0.heap[w.heap.size]?=some (.cells #[((),())] (107) (0,0)):=by rw[<- Gf];exact World.alloc_heap_new w _
 have Gg:Blw w W0:=by rw[<- Gf];exact(Below.refl _ w).alloc (nL _) _
 rw[Gf];obtain⟨W1,Gb⟩:∃W1,(W0.alloc (.deferred (some []))).alloc (.loop (y1z fn (.func (.func g) #[] lb) w W0 .ready none))=W1:=⟨_,rfl⟩
 have Gj:∀k,k<W0.heap.size->W1.heap[k]?=W0.heap[k]?:=fun k hk=>by
  rw[<- Gb];exact(Below.heap_alloc _ _ k (by simp;omega)).trans (Below.heap_alloc _ _ k hk)
 have Gh:Blw w W1:=by rw[<- Gb];exact(Gg.alloc Gg.size _).alloc (by have:=Gg.size;simp;omega) _
 have Gv:W1.heap.size=W0.heap.size+2:=by rw[<- Gb];simp
 have hM:ApAt w fn (.func (.func g) #[] lb) w (W0.heap.size+1) W0 [] W1 :=
  ⟨⟨_,(Gj w oM).trans Gr,⟨rfl,.inl ⟨rfl,rfl⟩⟩,by simp⟩,
   by rw[<- Gb];have:=World.alloc_heap_new (W0.alloc (.deferred (some []))) (.loop (y1z fn (.func (.func g) #[] lb) w W0 .ready none));rwa[World.size_alloc]at this,
   by rw[<- Gb];exact(Below.heap_alloc _ _ _ (by simp)).trans (World.alloc_heap_new W0 _),Gh⟩
 refine⟨W0.heap.size+1,[{ target := .collected W0,args:=#[] }],W1,{ target := .fn (.func g) lb,args:=#[.func (.yield (W0.heap.size+1)) #[] #[]] },W1,g,
  #[.func (.yield (W0.heap.size+1)) #[] #[]]++lb,W1,?_,?_,?_,?_,fun _=>h1,?_⟩
 ·rw[<- Gb];exact run_enterLoop_outer _ _ _ _ _
 ·simp[resolve,go_sem]
 ·intro f' hf';simp[Target.leads]at hf';subst hf';exact trivial
 ·simp[invoke,go_sem,eg]
 ·refine(hseq (W0.heap.size+1) (ApAt w fn (.func (.func g) #[] lb) w (W0.heap.size+1) W0) W1 Gh (x9x _ _ _ _ _ _ _ Gh.size)
   (fun pre x W hJ hl=>w9d (n-1-1) w fn hfn _ w (W0.heap.size+1) W0 oM oM oM (nL _) oM N hN hNb pre x W hJ hl) hM).mono ?_
  rintro e W2⟨⟨v0,rfl⟩,ss,hS,h2⟩;obtain⟨v,hv,Ge,Gi⟩:=h2.box;have Gd:=run_endLoop (P:=Tryz.prog) h2.L (by simp[y1z]);obtain⟨W3,Gc⟩:∃W3,W2.putObj (W0.heap.size+1) (.loop { y1z fn (.func (.func g) #[] lb) w W0 .ready none with state := .exhausted })=W3:=⟨_,rfl⟩
  rw[Gc]at Gd;have Gm:W2.grownBy W3 (some (W0.heap.size+1)):=by rw[<- Gc];exact grownBy_putObj_a _ _ _
  have Gs:W3.heap[w.heap.size]?=some (.cells #[v] (107) (0,0)):=by rw[<- Gc];exact(World.putObj_heap_other oM).trans hv
  have Gk:W3.heap[W0.heap.size]?=some (.deferred (some [])):=by rw[<- Gc];exact(World.putObj_heap_other oM).trans h2.K
  have Ga:=Ge.kept Gm (ownsRow_ne_a Ge h2.L (fun cur e=>by first|cases e|exact Gn (Obj.cells.inj e).2.1));have Gl:Blw w W3:=h2.below.grown Gm h2.below.size (fun k e=>by cases e;omega);obtain⟨Gt,Gu⟩:=cell_of_box_a Gs;clear Gc;refine⟨none,W3,Gd,?_⟩;gi_wp2
  rw[<- Gq];refine⟨by simp,.inl ⟨_,_,rfl,run_takeDeferred Gk,?_⟩⟩;exact⟨_,results_tmp rfl _ _ _,v,ss,rfl,hS,Ga.kept (grownBy_putObj_a _ _ _) (ownsRow_ne_a Ga Gk (fun cur e=>by first|cases e|exact Gn (Obj.cells.inj e).2.1)),Gi,Gl.grown (grownBy_putObj_a _ _ _) Gl.size (fun k e=>by cases e;omega)⟩
theorem x2f g lb (eg:∀args w,(callFunc g args).run Tryz.prog w=.ok (.enter g args) w)
  (S:List Nat->Prop) N (hN:N<=1000000) w (hseq:SeqGives Fence.wide 9 Tryz.prog g lb encW S N w) :
  () 178 #[.func (.func g) #[] lb] w fun e w'=>∃(v:Value)(ss:List Nat),e=.returned v/\S ss/\w'.ownsRow w 32 1 v ss.length (ss.map encW)/\(v=.slice none 0 0↔ss=[])/\Blw w w':=by
 have HA:=hid ((callsIn_wide (n:=10)).1 (y8j 10 oM g lb eg S N (by unfold maxLen;omega) oM w hseq));go_enter Tryz.func178,Tryz.ntmps178
 go_wp2_with (go_at_call 246;refine HA.out.mono ?_;rintro e w'⟨v,ss,rfl,hS,Gb,Ga,hb⟩)
 go_ret;exact⟨v,ss,rfl,hS,Gb,Ga,hb⟩
end
end Go.Proofs.YtmhbokcccjmfgaaGreatDoor
