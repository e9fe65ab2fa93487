/- part 33 -/
import Derived.Test.YtfkjjoglnmeciaaGreatDoorMbf
set_option maxRecDepth 100000
set_option maxHeartbeats 16000000
namespace Go.Proofs.YtfkjjoglnmeciaaGreatDoor
open Go.Lib (hid)
section
open Go.RowKit Go.Maps
theorem z8q (A:Option Addr) (n c:Nat) (l:List DR) (old:Nat) (A2:Option Addr) (n2 c2:Nat) (l2:List Nat) (w:World) (hin:x5g w A n c l) (hold:old < 18446744073709551616) (_h2:InB w A2 n2 c2 l2) (ht:Tab w) (hpy:Pay w) :
  Calls Tryz.prog 8 #[.slice A n c,.int .u64 old,.slice A2 n2 c2] w fun e w'=>e=.returned (.bool true)/\Blw w w' :=
 z8p A n c l old A2 n2 c2 w hin hold ht hpy
end
namespace versionPrunes
open Go.ChangeShapes Go.WideShapes Go.ChangeAt Go.RowKit
theorem contract (H:Type) (enc:TypeId × Value->H) (W:World) (base:Nat) (args:Array Value) (ds gs:List (DataW H)) (before:List MemPlace)
  (hval:∀ (j:Nat) t v,Tryz.f8.params[j]?=some t->args[j]?=some v->Value.okWide Tryz.prog W .any base t v)
  (hW:DataW.Whole enc Tryz.prog Tryz.f8.params.toList Rows.versionPrunesSpec.vars false W args.toList ds gs before) (hL:laidMetH Tryz.prog Rows.versionPrunesRow.laid W) :
  Calls Tryz.prog 8 args W fun e W'=>∃ v,e=.returned v/\Rows.versionPrunesSpec.post enc Tryz.prog Tryz.f8 false true false false W args v W':=by
 have Gg:=hW;obtain ⟨p,q,Ge,hV,rfl,Gn,Go⟩:=hW;have hA:DataW.TrodAll enc Tryz.prog W 0 (fun _=>true) true Tryz.f8.params.toList args.toList ds p:=Ge;rw [Tryz.params8] at hA hval;obtain ⟨v0,Gp,d0,Gk,p0,q0,Gf,rfl,rfl,h0,r0⟩:=trodAll_cons hA;obtain ⟨v1,Gq,d1,Gl,p1,q1,rfl,rfl,rfl,h1,r1⟩:=trodAll_cons r0;obtain ⟨v2,Gr,d2,Gm,p2,q2,rfl,rfl,rfl,h2,r2⟩:=trodAll_cons r1;obtain ⟨rfl,rfl,rfl⟩:=trodAll_nil r2;obtain rfl:args=#[v0,v1,v2]:=by cases args;simp_all
 obtain ⟨rfl,rfl⟩:=trodVars_none hV;have Gh:∀ x∈p0,x.block < W.heap.size:=by obtain ⟨m,hm⟩:=h0;exact DataW.trod_lt m _ _ _ hm
 obtain ⟨a0,Gc,Ga,l0,rfl,w0⟩:=w7t (hval 0 87 v0 rfl rfl) h0;have Gi:∀ x∈p1,x.block < W.heap.size:=by obtain ⟨m,hm⟩:=h1;exact DataW.trod_lt m _ _ _ hm
 obtain ⟨a1,rfl,w1⟩:=w8w (hval 1 32 v1 rfl rfl) h1;have Gj:∀ x∈p2,x.block < W.heap.size:=by obtain ⟨m,hm⟩:=h2;exact DataW.trod_lt m _ _ _ hm
 obtain ⟨a2,Gd,Gb,rfl⟩:=okWide_slice Tryz.underlying24 (hval 2 24 v2 rfl rfl);obtain ⟨l2,w2⟩:=x0x h2;clear Ge;refine (z8q a0 Gc Ga l0 a1 a2 Gd Gb l2 W w0 w1 w2 (w9r hL) (w9n hL)).mono fun e W' ⟨he,bel⟩=>?_
 subst he;exact ⟨_,rfl,_,_,_,[],_,[],Gg,trodAll_mk1 (shut_bool Tryz.underlying4 _),(trodAll_cons_mk (Below.trod y9j (by kernel_rfl) (of_decide_eq_true (by kernel_rfl)) h0 bel Gh) (trodAll_cons_mk (Below.trod y9j (by kernel_rfl) (of_decide_eq_true (by kernel_rfl)) h1 bel Gi) (trodAll_cons_mk (Below.trod y9j (by kernel_rfl) (of_decide_eq_true (by kernel_rfl)) h2 bel Gj) trodAll_mk0))),rfl,bel.frame _,fun h=>by cases h⟩
theorem laid_met (os:Os):laidMet Tryz.prog Rows.versionPrunesRow.laid ((y0t os).forCall (fun _ _=>0) ⟨#[],#[.slice none 0 0,.int .u64 0,.slice none 0 0],[]⟩).memory :=
 laidMet_of_run' 8 (by kernel_rfl) (by kernel_rfl)
theorem reads (os:Os) {H:Type} (enc:TypeId × Value->H):∃ places,DataW.whole enc Tryz.prog ((y0t os).forCall (fun _ _=>0) ⟨#[],#[.slice none 0 0,.int .u64 0,.slice none 0 0],[]⟩).memory Tryz.f8.params.toList Rows.versionPrunesSpec.vars false #[Value.slice none 0 0,Value.int .u64 0,Value.slice none 0 0].toList 8=some ([.nil,.lit (.int .u64 0),.nil],[],places) :=
 ⟨[],by kernel_rfl⟩
theorem lifted (os:Os) (started:os.Started) (H:Type) (enc:TypeId × Value->H) (F:Stop.Interp) :
  ReturnsInHanded {} Tryz.checked os 8 .any ((OpenSpec.ofChange Rows.versionPrunesSpec).preRow enc Tryz.prog Tryz.f8 Rows.versionPrunesRow.domain false Rows.versionPrunesRow.laid) (((OpenSpec.ofChange Rows.versionPrunesSpec).at F).post enc Tryz.prog Tryz.f8 false true false false):=by
 obtain ⟨Ga,hx⟩:=reads os enc;refine returnsInHanded_of_row (C:=Tryz.checked) (s:=OpenSpec.ofChange Rows.versionPrunesSpec) ownK started (by kernel_rfl) Tryz.func8
  (witness_row_at (enc:=enc) (C:=Tryz.checked) false (y0t os) #[.slice none 0 0,.int .u64 0,.slice none 0 0] rfl (by kernel_rfl) (by kernel_rfl) (by kernel_rfl)
   (OpenSpec.preRow_of_cond 8 hx (by kernel_rfl) (fun k hk=>by cases hk) (by kernel_rfl) (laid_met os))) ?_
 intro W base args ds gs before hval hW _ _ _ hL _ _;exact contract H enc W base args ds gs before hval hW hL
theorem both {a b:Bool} (x:a=true) (y:b=true):(a && b)=true:=by rw [x,y];rfl
theorem closed:joinedFacts Tryz.pinned.checked.prog 8 Tryz.f8 (OpenSpec.ofChange Rows.versionPrunesSpec).bare Rows.versionPrunesRow=true:=by
 unfold joinedFacts;refine both (both (both (both (both (both (both (both (both (both (both (both (both (both (both (both (both (both (both (both (both (both (both (both (both (both (both (both (both (both (both ?_ ?_) ?_) ?_) ?_) ?_) ?_) ?_) ?_) ?_) ?_) ?_) ?_) ?_) ?_) ?_) ?_) ?_) ?_) ?_) ?_) ?_) ?_) ?_) ?_) ?_) ?_) ?_) ?_) ?_) ?_) ?_;all_goals (as_aux_lemma=>kernel_rfl)
theorem named:Tryz.pinned.checked.prog.funcNamed Rows.versionPrunesRow.func=some 8:=by kernel_rfl
theorem said:Rows.VersionPrunesSaid :=
 OpenClaim.holds_of_cond 8 Tryz.f8 rfl rfl rfl rfl rfl rfl rfl ⟨rfl,rfl,rfl,rfl,rfl⟩ rfl rfl rfl rfl rfl named Tryz.func8 closed
  (of_decide_eq_true (by kernel_rfl)) (by unfold Func.isWrapper;first | (rw [if_pos (by decide +kernel)];kernel_rfl) | (rw [if_neg (by decide +kernel)];exact ⟨rfl,rfl⟩))
  (fun os started H enc _ F=>by rw [OpenClaim.pre_eq_preRow];exact lifted os started H enc F)
theorem plain (f : FuncId) (fn : Func) (hf : Tryz.pinned.checked.prog.funcNamed "bedrock/bedrocklaw37.VersionPrunes" = some f) (hfn : Tryz.pinned.checked.prog.funcs[f]? = some fn) :
  true=Tryz.pinned.checked.prog.looks []/\∀ (j:Nat) t,fn.params[j]?=some t->Tryz.pinned.checked.prog.wantsStandIn t=false:=by
 obtain rfl : f = 8 := Option.some.inj ((show Tryz.prog.funcNamed "bedrock/bedrocklaw37.VersionPrunes" = some 8 by kernel_rfl).symm.trans hf) |>.symm
 obtain rfl:fn=Tryz.f8:=(Option.some.inj (Tryz.func8.symm.trans hfn)).symm;refine ⟨by kernel_rfl,fun j t ht=>?_⟩;rw [Tryz.params8] at ht;have hm:=Array.mem_of_getElem? ht;simp only [List.mem_toArray,List.mem_cons,List.not_mem_nil,or_false] at hm;rcases hm with rfl | rfl | rfl
 ·exact (show Tryz.prog.wantsStandIn 87=false by kernel_rfl)
 ·exact (show Tryz.prog.wantsStandIn 32=false by kernel_rfl)
 ·exact (show Tryz.prog.wantsStandIn 24=false by kernel_rfl)
end versionPrunes
end Go.Proofs.YtfkjjoglnmeciaaGreatDoor
