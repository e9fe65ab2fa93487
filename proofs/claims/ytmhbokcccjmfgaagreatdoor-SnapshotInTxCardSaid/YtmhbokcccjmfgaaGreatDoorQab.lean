/- part 2 -/
import Derived.Test.YtmhbokcccjmfgaaGreatDoorQaa
set_option maxRecDepth 100000
set_option maxHeartbeats 16000000
namespace Go.Proofs.YtmhbokcccjmfgaaGreatDoor
open Go.Lib (hid)
section
open Go.RowKit Go.Maps
def nmI:Value := .iface 367 (.agg #[])
def unI:Value := .iface 368 (.agg #[])
def prI:Value := .iface 374 (.agg #[nmI,unI])
def arC0:Array Value:=#[.int .i64 8,prI]
def arI:Value := .iface 306 (.agg arC0)
theorem v0n w : (method 585 367 (.agg #[]) "Words").run Tryz.prog w=.ok (391,.agg #[]) w := by kernel_rfl
theorem v0t w : (method 585 368 (.agg #[]) "Words").run Tryz.prog w=.ok (394,.agg #[]) w := by kernel_rfl
theorem v0q w : (method 585 374 (.agg #[nmI,unI]) "Words").run Tryz.prog w=.ok (397,.agg #[nmI,unI]) w := by kernel_rfl
theorem v0k w : (method 585 306 (.agg arC0) "Words").run Tryz.prog w=.ok (203,.agg arC0) w := by kernel_rfl
theorem z7t w:() 391 #[.agg #[]] w fun e w'=>e=.returned (.int .i64 3)/\Blw w w':=by
 go_enter Tryz.func391,Tryz.ntmps391
 go_wp2;go_ret;exact⟨rfl,(Below.refl _ _).alloc (nL _) _⟩
theorem x3r w:() 394 #[.agg #[]] w fun e w'=>e=.returned (.int .i64 1)/\Blw w w':=by
 go_enter Tryz.func394,Tryz.ntmps394
 go_wp2;go_ret;exact⟨rfl,(Below.refl _ _).alloc (nL _) _⟩
theorem z9n w:() 398 #[nmI] w fun e w'=>e=.returned (.int .i64 3)/\Blw w w':=by
 have hm:=v0n;have Ga:∀W,(binOp .eql 370 (.iface 367 (.agg #[])) .nilIface).run Tryz.prog W=.ok false W:=fun W=>by rfl
 unfold nmI;go_enter Tryz.func398,Tryz.ntmps398
 go_wp2_with (go_at_call 391;refine(z7t w).mono ?_;rintro e w1⟨rfl,hb⟩)
 go_ret;exact⟨rfl,hb⟩
theorem x8t w:() 399 #[unI] w fun e w'=>e=.returned (.int .i64 1)/\Blw w w':=by
 have hm:=v0t;have Ga:∀W,(binOp .eql 372 (.iface 368 (.agg #[])) .nilIface).run Tryz.prog W=.ok false W:=fun W=>by rfl
 unfold unI;go_enter Tryz.func399,Tryz.ntmps399
 go_wp2_with (go_at_call 394;refine(x3r w).mono ?_;rintro e w1⟨rfl,hb⟩)
 go_ret;exact⟨rfl,hb⟩
theorem z7x w:() 397 #[.agg #[nmI,unI]] w fun e w'=>e=.returned (.int .i64 4)/\Blw w w':=by
 obtain⟨W1,Ga⟩:∃W1,w.alloc (.cells #[nmI,unI] 374)=W1:=⟨_,rfl⟩
 have Ge:Blw w W1:=by rw[<- Ga];exact(Below.refl _ _).alloc (nL _) _
 have hk:Blk W1 w 374 #[nmI,unI]:=by rw[<- Ga];exact Blk.new _ _ _
 have Gh:=hid Ga;have Gc:=hid Ge;have HK:=hid hk;clear Ga Ge hk;go_enter Tryz.func397,Tryz.ntmps397
 go_upto_region 1 with fail
 rw[Gh.out];refine z0e (fun w'=>Blw W1 w') 8 [] [(1,0),(1,1),(1,3),(1,4),(0,2),(0,5),(1,6),(1,7)] (by kernel_rfl) (by kernel_rfl) (Below.refl _ _).drew ?_;refine tkG (w,0) ?_;refine tkH (nmI) (fun w' hS=>?_) ?_
 ·have c0:w'.cell? (w,0)=some nmI:=(HK.out.below hS HK.out.lt).cell 0
  go_simp
 refine tkG (w,1) ?_;refine tkH (unI) (fun w' hS=>?_) ?_
 ·have c0:w'.cell? (w,1)=some unI:=(HK.out.below hS HK.out.lt).cell 1
  go_simp
 refine z0c (by rfl) ?_;go_wp2_with (go_at_call 398;refine(z9n _).mono ?_;rintro e w2⟨rfl,Gf⟩;have Gb:Hid (Blw W1 w2):=hid ((Below.refl _ _).drew.trans (Gf.mono (Below.refl W1 W1).drew.size));clear Gf)
 refine⟨Gb.out,?_⟩;refine z0c (by rfl) ?_;go_wp2_with (go_at_call 399;refine(x8t _).mono ?_;rintro e w3⟨rfl,Gg⟩;have Gd:Hid (Blw W1 w3):=hid (Gb.out.trans (Gg.mono Gb.out.size));clear Gg)
 refine⟨Gd.out,?_⟩;refine tkG (.int .i64 3) ?_;refine tkG (.int .i64 1) ?_;show wpList _ _ _ _ _ _;simp only[List.drop_succ_cons,List.drop_zero];refine NoPanic.normal ?_;go_wp2;go_ret;exact⟨rfl,Gc.out.trans (Gd.out.mono Gc.out.size)⟩
theorem z9q w:() 263 #[prI] w fun e w'=>e=.returned (.int .i64 4)/\Blw w w':=by
 have hm:=v0q;have Ga:∀W,(binOp .eql 304 (.iface 374 (.agg #[nmI,unI])) .nilIface).run Tryz.prog W=.ok false W:=fun W=>by rfl
 unfold prI;go_enter Tryz.func263,Tryz.ntmps263
 go_wp2_with (go_at_call 397;refine(z7x w).mono ?_;rintro e w1⟨rfl,hb⟩)
 go_ret;exact⟨rfl,hb⟩
theorem z5f w:() 203 #[.agg arC0] w fun e w'=>e=.returned (.int .i64 33)/\Blw w w':=by
 unfold arC0;obtain⟨W1,Ga⟩:∃W1,w.alloc (.cells #[.int .i64 8,prI] 306)=W1:=⟨_,rfl⟩
 have Gd:Blw w W1:=by rw[<- Ga];exact(Below.refl _ _).alloc (nL _) _
 have hk:Blk W1 w 306 #[.int .i64 8,prI]:=by rw[<- Ga];exact Blk.new _ _ _
 have Gg:=hid Ga;have Gb:=hid Gd;have HK:=hid hk;have c1:W1.cell? (w,1)=some prI:=hk.cell 1;clear Ga Gd hk;go_enter Tryz.func203,Tryz.ntmps203
 go_upto_region 1 with fail
 rw[Gg.out];go_wp2_with (go_at_call 263;refine(z9q _).mono ?_;rintro e w2⟨rfl,Ge⟩;have Gc:=hid Ge;clear Ge)
 have Gf:=HK.out.below Gc.out HK.out.lt;have d0:w2.cell? (w,0)=some (.int .i64 8):=Gf.cell 0;clear c1 Gf;go_region;go_wp2;go_ret;exact⟨rfl,Gb.out.trans (Gc.out.mono Gb.out.size).drew⟩
theorem z9f w:() 303 #[arI] w fun e w'=>e=.returned (.int .i64 33)/\Blw w w':=by
 have hm:=v0k;have Ga:∀W,(binOp .eql 408 (.iface 306 (.agg arC0)) .nilIface).run Tryz.prog W=.ok false W:=fun W=>by rfl
 unfold arI;go_enter Tryz.func303,Tryz.ntmps303
 go_wp2_with (go_at_call 203;refine(z5f w).mono ?_;rintro e w1⟨rfl,hb⟩)
 go_ret;exact⟨rfl,hb⟩
theorem z4b w:() 202 #[] w fun e w'=>e=.returned (.agg arC0)/\Blw w w':=by
 go_enter Tryz.func202,Tryz.ntmps202
 go_wp2;refine bodyPost_ret (v := .agg arC0) ?_ rfl ?_
 ·simp[results,Tryz.results202,go_sem]
  rfl
 ·exact⟨rfl,(Below.refl _ _).alloc (nL _) _⟩
end
section
open Go.RowKit
theorem z0p{H:Type}{P:Program}{k:TypeId}{R:Value->Option (DataW H×List MemPlace)}{w:World}{b n g:Nat}{D:DataW H}{t:TypeId}{cs:Array Value}(h:w.ownsMap P k R b n D)(hB:Blk w g t cs):b≠g:=by
 rintro rfl;obtain⟨es,Ga,h1,_⟩:=h;have h2:w.heap[b]?=some (.cells cs t (0,0)):=hB;rw[h1]at h2;cases h2
theorem z2j{H:Type}{P:Program}{k:TypeId}{R:Value->Option (DataW H×List MemPlace)}{w:World}{b n:Nat}{D:DataW H}(h:w.ownsMap P k R b n D){base:Nat}{e:TypeId}{size m:Nat}{v:Value}{xs:List Value}(ho:w.ownsRow base e size v m xs):some b≠v.ownBlock:=by
 intro he;rcases ho.2 with ⟨rfl,_⟩|⟨g,cap,cur,rfl,_,hh,_⟩
 ·simp[Value.ownBlock]at he
 ·have:b=g:=by simpa[Value.ownBlock] using he
  subst this;exact z0p h (show Blk w b e cur from hh) rfl
theorem w2f{w:World}{base:Nat}{e:TypeId}{size n:Nat}{v:Value}{xs:List Value}(h:w.ownsRow base e size v n xs){g:Nat}(hg:v.ownBlock=some g):g<w:=(h.lt g hg).2
theorem z5y{cs:Array Value}{j:Nat}{u:Value}(i:Nat)(hj:j<cs.size):(cs.setIfInBounds j u)[i]?=if i=j then some u else cs[i]?:=by
 rw[Array.getElem?_setIfInBounds];by_cases h:j=i
 ·subst h;simp[hj]
 ·rw[if_neg h,if_neg (fun e=>h e.symm)]
theorem x2m{L m xs}(h:y7o L m xs)(hl:xs.length=m*2)(off v:Nat)(ho:off<64*L):y7o L (m+1) (xs++[.int .u64 off,.int .u64 v]):=by
 intro k hk;rcases Nat.lt_or_ge k m with h1|h1
 ·obtain⟨o,u,g1,g2,g3⟩:=h k h1
  exact⟨o,u,by rw[List.getElem?_append_left oM];exact g1,by rw[List.getElem?_append_left oM];exact g2,g3⟩
 ·obtain rfl:k=m:=oM
  refine⟨off,v,?_,?_,ho⟩
  ·rw[List.getElem?_append_right oM,hl,Nat.sub_self];rfl
  ·rw[List.getElem?_append_right oM,hl,show k*2+1-k*2=1 by omega];rfl
section
variable{a:DA}{L T:Nat}{w:World}{S:Fp}{cur:Nat->Nat}{s:LS}{exe:Int}{per cs ls:Array Value}
theorem w3d{D N}(h:DevC a L T w S cur s exe per cs ls)(hN:x0t a L w s N 0)(hCl:y0a L s D)(off v:Nat)(h8:off%8=0)(hlt:off<64*L)(hT:T<1000000000):
  () 44 #[(a.th 0,()),off,v] w (z5e a L (T+1) w S (upd cur (off/8) v) (fun k=>D k\/k=off/8) (fun _=>False) 0 (.tuple #[])):=by
 obtain⟨f0,f2,Gh,f1,_⟩:=h.facts (j:=0) oM;have hi:off/64<L:=oM;have hj:off/8<8*L:=oM;have ho:=h.own _ hi;have Gi:=h.few _ hi;obtain⟨hA,hc,hv⟩:=z4f ho;have Gc:=h.thr 0 oM;have n1:a.d≠a.th 0:=h.dev.ne_ Gc (by decide);have n2:a.d≠a.lb:=h.dev.ne_ h.linB (by decide);have n3:a.d≠a.cb:=h.dev.ne_ h.curB (by decide);have n4:a.th 0≠a.lb:=Gc.ne_ h.linB (by decide);have n5:a.th 0≠a.cb:=Gc.ne_ h.curB (by decide);have n6:a.lb≠a.cb:=h.linB.ne_ h.curB (by decide);have n7:a.d≠a.pb:=h.dev.ne_ h.perB (by decide);have n8:a.lb≠a.pb:=h.linB.ne_ h.perB (by decide);have o1:=z0l ho h.dev (by decide);have o2:=z0l ho Gc (by decide);have o3:=z0l ho h.linB (by decide);have o4:=z0l ho h.curB (by decide);have o5:=z0l ho h.perB (by decide);have Gl:=h.curS;have Gk:=h.curL;have Gm:=h.linS;refine(x8r L a.cc a.d (a.th 0) a.lb a.cb exe off v hA (s.m (off/64)) hc (s.xs (off/64)) (cur (off/8)) w (by rw[beq_iff_eq];omega) hlt h.hL oM f0 f2 Gh (h.dev.cell 12) (h.dev.cell 14) (h.dev.frozen 14) f1
  (by rw[h.linB.cell,h.linH _ hi,hv]) (h.linB.frozen _) (hv▸ho) (by rw[h.curB.cell];exact h.curI _ hj) (h.curB.frozen _) n1 n2 n3 n4 n5 n6 (hv▸o1) (hv▸o2) (hv▸o3) (hv▸o4)).mono ?_
 rintro e w'⟨rfl,A',m',c',W,hm,Gb,hg,hl,rfl⟩;rw[<- hv]at hg hl;have Gn:w.heap.size+1<=W.heap.size:=by have:=hg.size;simp at this;exact this
 have k0:∀{g:Nat}{t:TypeId}{xs:Array Value},Blk w g t xs->g≠a.d->some g≠(s.h (off/64)).ownBlock->Blk W g t xs:=fun hB h1 h2=>((hB.far (p:=⟨a.d,14,none⟩) h1 _).alloc _).grown hg h2
 have kd:Blk W a.d _ (y0t a L (IntKind.u64.wrap (exe+1))):=((h.dev.set_ 14 _).alloc _).grown hg (fun e=>o1 e.symm);have kl:=k0 h.linB n2.symm (fun e=>o3 e.symm);have kc:=k0 h.curB n3.symm (fun e=>o4 e.symm);have kp:=k0 h.perB n7.symm (fun e=>o5 e.symm);have kt:∀j,j<8->Blk W (a.th j) _ #[(a.d,()),[j],(),.map (some (a.nt j))]:=fun j hj'=>k0 (h.thr j hj') ((h.thr j hj').ne_ h.dev (by decide)) (fun e=>z0l ho (h.thr j hj') (by decide) e.symm)
 have p3:=z0l Gb kl (by decide);have p4:=z0l Gb kc (by decide);obtain⟨l0,Ga,Ge,_⟩:=hN;have Gd:W.ownsMap Tryz.prog 3 (plainElem Tryz.prog 32) (a.nt 0) 0 (.map l0):=((Ga.setCell (a:=⟨a.d,14,none⟩) (z0p Ga h.dev) _).alloc _).kept hg (z2j Ga ho);have Gj:l0=[]:=by
  have:=Ga.size_le;exact List.eq_nil_of_length_eq_zero (by simpa[Maps.size] using this)
 refine⟨rfl,fun k=>S k\/(Value.slice A' m' c').ownBlock=some k,⟨⟨s.dn,fun k=>if k=off/64 then m' else s.m k,fun k=>if k=off/64 then .slice A' m' c' else s.h k,fun k=>if k=off/64 then s.xs (off/64)++[.int .u64 off,.int .u64 v]else s.xs k,s.pw,fun k=>if k=off/64 then s.ws (off/64)++[(off,v)]else s.ws k⟩,IntKind.u64.wrap (exe+1),per,cs.setIfInBounds (off/8) v,ls.setIfInBounds (off/64*2+1) (.slice A' m' c'),?_,?_,?_⟩,?_,?_⟩
 ·have Gf:∀k,k<L->k≠off/64->((W.setCell (a.lb,off/64*2+1) (.slice A' m' c')).setCell (a.cb,off/8) v).ownsRow 0 _ 2 (s.h k) (s.m k) (s.xs k):=fun k hk hne=>by
   have h1:=h.own k hk;have h2:=((ownsRow_setCell_other h1 (a:=⟨a.d,14,none⟩) (z0l h1 h.dev (by decide)) (IntKind.u64.wrap (exe+1))).alloc (.cells #[off,v] 117)).kept hg ?_
   ·have h3:=z0l h2 kl (by decide)
    have h4:=z0l h2 kc (by decide);exact ownsRow_setCell_other (ownsRow_setCell_other h2 (a:=⟨a.lb,off/64*2+1,none⟩) h3 _) (a:=⟨a.cb,off/8,none⟩) h4 _
   ·cases hb:(s.h k).ownBlock with
    |none=>exact .inl rfl
    |some g=>exact .inr (fun e=>hne (h.apart k _ g hk hi hb e.symm))
  exact
  {dev:=(kd.far (p:=⟨a.lb,off/64*2+1,none⟩) n2 _).far (p:=⟨a.cb,off/8,none⟩) n3 _
   perB:=(kp.far (p:=⟨a.lb,off/64*2+1,none⟩) n8.symm _).far (p:=⟨a.cb,off/8,none⟩) h.ne _
   perS:=h.perS
   perI:=h.perI
   curB:=(kc.far (p:=⟨a.lb,off/64*2+1,none⟩) n6.symm _).set_ (off/8) _
   curS:=by simpa using h.curS
   curL:=h.curL
   curM:=h.curM
   curI:=fun k hk=>by
    rw[z5y k oM];unfold upd;by_cases hkj:k=off/8
    ·rw[if_pos hkj,if_pos hkj]
    ·rw[if_neg hkj,if_neg hkj];exact h.curI k hk
   linB:=((kl.set_ (off/64*2+1) _).far (p:=⟨a.cb,off/8,none⟩) n6 _)
   linS:=by simpa using h.linS
   linD:=fun k hk=>by rw[z5y _ oM,if_neg oM];exact h.linD k hk
   linH:=fun k hk=>by
    rw[z5y _ oM];by_cases hki:k=off/64
    ·rw[if_pos oM];simp only[if_pos hki]
    ·rw[if_neg oM];simp only[if_neg hki];exact h.linH k hk
   own:=fun k hk=>by
    by_cases hki:k=off/64
    ·simp only[if_pos hki]
     exact ownsRow_setCell_other (ownsRow_setCell_other Gb (a:=⟨a.lb,off/64*2+1,none⟩) p3 _) (a:=⟨a.cb,off/8,none⟩) p4 _
    ·simp only[if_neg hki]
     exact Gf k hk hki
   ok:=fun k hk=>by
    by_cases hki:k=off/64
    ·simp only[if_pos hki,hm]
     exact x2m (h.ok _ hi) ho.1 off v hlt
    ·simp only[if_neg hki]
     exact h.ok k hk
   few:=fun k hk=>by
    have:=h.few k hk;by_cases hki:k=off/64
    ·subst hki;simp only[if_true];omega
    ·simp only[if_neg hki];omega
   apart:=fun x y g hx hy h1 h2=>by
    by_cases hx':x=off/64<;>by_cases hy':y=off/64
    ·omega
    ·simp only[if_pos hx']at h1
     simp only[if_neg hy']at h2;rcases hl with hl|hl
     ·rw[hl]at h1;have:=h.apart _ y g hi hy h1 h2;omega
     ·rw[hl]at h1
      have h3:=w2f (h.own y hy) h2;injection h1 with h1
      omega
    ·simp only[if_neg hx']at h1
     simp only[if_pos hy']at h2;rcases hl with hl|hl
     ·rw[hl]at h2;have:=h.apart x _ g hx hi h1 h2;omega
     ·rw[hl]at h2
      have h3:=w2f (h.own x hx) h1;injection h2 with h2
      omega
    ·simp only[if_neg hx']at h1
     simp only[if_neg hy']at h2;exact h.apart x y g hx hy h1 h2
   thr:=fun j hj'=>((kt j hj').far (p:=⟨a.lb,off/64*2+1,none⟩) ((h.thr j hj').ne_ h.linB (by decide)) _).far (p:=⟨a.cb,off/8,none⟩) ((h.thr j hj').ne_ h.curB (by decide)) _
   sd := .inl h.sd
   sp := .inl h.sp
   sc := .inl h.sc
   sl := .inl h.sl
   sn := .inl h.sn
   st:=fun j hj' => .inl (h.st j hj')
   sh:=fun k g hk hg'=>by
    by_cases hki:k=off/64
    ·simp only[if_pos hki]at hg';exact .inr hg'
    ·simp only[if_neg hki]at hg';exact .inl (h.sh k g hk hg')
   lt:=fun k hk=>by
    have Gg:((W.setCell (a.lb,off/64*2+1) (.slice A' m' c')).setCell (a.cb,off/8) v).heap.size=W.heap.size:=by simp
    rw[Gg];rcases hk with hk|hk
    ·have:=h.lt k hk;omega
    ·exact w2f Gb hk
   ne:=h.ne
   hL:=h.hL
   hT:=oM
   pv:=h.pv
   hx:=fun k hk=>by
    by_cases hki:k=off/64
    ·simp only[if_pos hki]
     rw[h.hx _ hi];simp[z0a]
    ·simp only[if_neg hki]
     exact h.hx k hk
   lin:=fun k hk e he=>by
    by_cases hki:k=off/64
    ·simp only[if_pos hki]at he
     rcases List.mem_append.1 he with he|he
     ·rw[hki];exact h.lin _ hi e he
     ·simp only[List.mem_cons,List.not_mem_nil,or_false]at he
      rw[he];exact hki.symm
    ·simp only[if_neg hki]at he
     exact h.lin k hk e he
   link:=fun k hk=>by
    by_cases hki:k/8=off/64
    ·simp only[if_pos hki]
     rw[x5u];unfold upd;by_cases hkj:k=off/8
     ·rw[if_pos hkj,if_pos hkj]
     ·rw[if_neg hkj,if_neg hkj,<- hki]
      exact h.link k hk
    ·simp only[if_neg hki]
     unfold upd;rw[if_neg oM];exact h.link k hk }
 ·refine⟨l0,?_,(fun p hp=>by rw[Gj]at hp;cases hp),fun _ h=>h.elim⟩
  have h1:=Gd.setCell (a:=⟨a.lb,off/64*2+1,none⟩) (z0p Gd kl) (.slice A' m' c');exact h1.setCell (a:=⟨a.cb,off/8,none⟩) (z0p Gd kc) _
 ·intro k hk hnd e he
  by_cases hki:k/8=off/64
  ·simp only[if_pos hki]at he
   rcases List.mem_append.1 he with he|he
   ·exact hCl k hk (fun hd=>hnd (.inl hd)) e (by rw[hki];exact he)
   ·simp only[List.mem_cons,List.not_mem_nil,or_false]at he
    subst he;exact fun e2=>hnd (.inr e2.symm)
  ·simp only[if_neg hki]at he
   exact hCl k hk (fun hd=>hnd (.inl hd)) e he
 ·have c1:Chg S w W:=(((Chg.refl S w).setCell (p:=⟨a.d,14,none⟩) (.inl h.sd) _).alloc _).grown hg (fun g hg' => .inl (h.sh _ g hi hg'))
  exact(c1.setCell (p:=⟨a.lb,off/64*2+1,none⟩) (.inl h.sl) _).setCell (p:=⟨a.cb,off/8,none⟩) (.inl h.sc) _
 ·intro k hk
  rcases hk with hk|hk
  ·exact .inl hk
  ·rcases hl with hl|hl
   ·rw[hl]at hk;exact .inl (h.sh _ k hi hk)
   ·rw[hl]at hk
    injection hk with hk
    exact .inr oM
end
end
section
open Go.RowKit Go.Maps
def v2x(md:Region.Mode)(ops:Array Oper)(listed:Array Bool):Bool :=
 (List.range ops.size).all fun j => !listed.getD j false||(match ops[j]? with|some oj=>oj.after.toList.all fun e => !Region.binds md e||listed.getD e.on false|none=>true)
theorem x7g{md ops listed}(h:v2x md ops listed=true):Clos md ops listed:=by
 refine⟨fun j oj hj hl e he hb=>?_⟩;have Ga:j<ops.size:=(Array.getElem?_eq_some_iff.1 hj).1;have h1:=List.all_eq_true.1 h j (List.mem_range.2 Ga);rw[hl,hj]at h1;simp only[Bool.not_true,Bool.false_or]at h1;have h2:=List.all_eq_true.1 h1 e (by simpa using he);rw[hb]at h2;simpa using h2
def v3a(md:Region.Mode)(l:List Oper)(listed:Array Bool)(i:Nat):Bool :=
 Region.noSelect l.toArray&&v2x md l.toArray listed&&(Region.ready md l.toArray listed).contains i&&Region.free md l.toArray listed i
theorem z0v{P md ops Q S l}(hl:ops=l.toArray){k i listed a w o} v (ho:nth l i=some o) (hB:v3a md l listed i=true) (hw:Region.wanted o (yielded ops a.tmps)=true) (hy:∀w,S w->(execOp a.eval o).run P w=.ok (.value v) w) (hS:S w)
  (h:z3d P md ops (NoPanic Q) S (fun _=>true) k (listed.setIfInBounds i true) (a.put o.dst v) w):z3d P md ops (NoPanic Q) S (fun _=>true) (k+1) listed a w:=by
 subst hl;simp only[v3a,Bool.and_eq_true]at hB;obtain⟨⟨⟨h1,h2⟩,h3⟩,h4⟩:=hB;have Ga:l.toArray[i]?=some o:=by rw[z9o];exact ho
 exact z6m Ga (Region.noSelect_spec h1) (fun _ _ _ h=>h) (f:=40) k listed a w (x7g h2) (fun j _ hj=>(by cases hj)) (Region.free_spec Ga h4) (by simpa using h3) (.inl ⟨hw,hy⟩) hS h
theorem z9x{x:Nat}(h:x<18446744073709551616):(Lit.int .u64 x).wf=true:=by
 exact WalkArith.wf_u64 ⟨oM,oM⟩
theorem y4t{H:Type}{x p}:∀{l:List (Lit×DataW H)},p∈DataW.insert x l->p=x\/p∈l
 |[],h=>by simp[DataW.insert]at h;exact .inl h
 |y::r,h=>by
  unfold DataW.insert at h;split at h
  ·rw[List.mem_cons]at h;exact h
  ·rw[List.mem_cons]at h
   rcases h with h|h
   ·exact .inr (by rw[h];exact List.mem_cons_self ..)
   ·exact(y4t h).imp id (List.mem_cons_of_mem _)
theorem y2p{H:Type}(x:Lit×DataW H):∀l:List (Lit×DataW H),x∈DataW.insert x l
 |[]=>by simp[DataW.insert]
 |y::r=>by
  unfold DataW.insert;split
  ·exact List.mem_cons_self ..
  ·exact List.mem_cons_of_mem _ (y2p x r)
theorem y4q{H:Type}{x p}:∀{l:List (Lit×DataW H)},p∈l->p∈DataW.insert x l
 |y::r,h=>by
  unfold DataW.insert;split
  ·exact List.mem_cons_of_mem _ h
  ·rcases List.mem_cons.1 h with h|h
   ·rw[h];exact List.mem_cons_self ..
   ·exact List.mem_cons_of_mem _ (y4q h)
def w3v(w:World)(d nb F:Nat)(exe:Int)(l:List (Lit×DataW Unit))(i x:Nat)(e:Ending)(w':World):Prop :=
 e=.returned (.tuple #[])/\w'.ownsMap Tryz.prog 3 (plainElem Tryz.prog 32) nb (F+1) ((DataW.map l).put (.int .i64 i) (.lit (.int .u64 x))) /\
  (w.setCell ⟨d,14,none⟩ (.int .u64 (IntKind.u64.wrap (exe+1)))).drew.grownBy w' (some nb)
theorem x7m(L d th lb nb:Nat)(exe:Int)(off F dn:Nat)(hA:Option Addr)(m hc:Nat)(l:List (Lit×DataW Unit))(w:World)(hlt:off<64*L)(hL:L<=4096)(hm:dn+m<=1000000000)(hF:F<1000000000)
  (f0:w.cell? (th,())=some (d,())) (f2:w.cell? ⟨d,2,none⟩=some (.slice (some (lb,())) L L)) (f11:w.cell? ⟨d,11,none⟩=some ↑false) (f12:w.cell? ⟨d,12,none⟩=some ↑false) (f14:w.cell? ⟨d,14,none⟩=some ↑exe) (z14:w.frozen? ⟨d,14,none⟩=false)
  (f3:w.cell? ⟨th,3,none⟩=some (.map (some nb))) (fd:w.cell? (lb,off/64*2)=some ↑dn) (fl:w.cell? (lb,off/64*2+1)=some (.slice hA m hc))
  (own:w.ownsMap Tryz.prog 3 (plainElem Tryz.prog 32) nb F (.map l))
  (n1:d≠th) (n2:d≠lb) (n3:nb≠d) :
  () 374 #[(th,()),off] w (w3v w d nb F exe l (off/64) (dn+m)):=by
 have e1:decide ((off:Int)<(L:Int)*64)=true:=dT;have e5:decide (off<L*64)=true:=dT;have e6:(off:Int)/64<(L:Int):=oM;have e7:(0:Int)<=(off:Int)/64:=oM;have e8:((off:Int)/64).toNat=off/64:=oM;have m1:=n1.symm;have m2:=n2.symm;have u1:IntKind.u64.wrap (m:Int)=(m:Int):=by rw[IntKind.wrap_u64];omega
 have u2:IntKind.u64.wrap ((dn:Int)+(m:Int))=(dn:Int)+(m:Int):=by rw[IntKind.wrap_u64];omega
 have Ga:Hid ((w.setCell ⟨d,14,none⟩ (IntKind.u64.wrap (exe+1))).drew.ownsMap Tryz.prog 3 (plainElem Tryz.prog 32) nb F (.map l)):=(own.setCell (a:=⟨d,14,none⟩) n3 _).drew;clear own;go_enter Tryz.func374,Tryz.ntmps374
 go_wp2;refine z0f (fun w'=>w'.cell? ⟨th,3,none⟩=some (.map (some nb))/\w'.cell? (lb,off/64*2)=some ↑dn/\w'.cell? (lb,off/64*2+1)=some (.slice hA m hc)) 16 [(true,0),(true,1),(true,2),(true,3),(true,4),(true,5),(true,6),(true,7),(true,8),(true,9),(true,10),(true,11),(true,12),(true,13),(true,14),(true,15)] (by kernel_rfl) (by kernel_rfl) ?_ ?_
 ·refine⟨?_,?_,?_⟩
  ·rw[World.cell?_drew,World.cell?_setCell_other _ _ _ _ (by simp)];exact f3
  ·rw[World.cell?_drew,World.cell?_setCell_other _ _ _ _ (by simp)];exact fd
  ·rw[World.cell?_drew,World.cell?_setCell_other _ _ _ _ (by simp)];exact fl
 clear f0 f2 f11 f12 f14 z14 f3 fd fl e1 e5;refine tkS (th,()) (fun w' hS=>?_) ?_
 ·go_simp
 refine tkS (th,()) (fun w' hS=>?_) ?_
 ·go_simp
 refine tkS (.pointer (some ⟨th,3,none⟩)) (fun w' hS=>?_) ?_
 ·go_simp
 refine tkS (.map (some nb)) (fun w' hS=>?_) ?_
 ·obtain⟨s1,s2,s3⟩:=hS
  go_simp
 refine tkS (.int .i64 ((off:Int)/64)) (fun w' hS=>?_) ?_
 ·go_simp
 refine tkS (lb,off/64*2) (fun w' hS=>?_) ?_
 ·go_simp
 refine tkS (lb,off/64*2) (fun w' hS=>?_) ?_
 ·go_simp
 refine tkS (lb,off/64*2) (fun w' hS=>?_) ?_
 ·go_simp
 refine tkS dn (fun w' hS=>?_) ?_
 ·obtain⟨s1,s2,s3⟩:=hS
  go_simp
 refine tkS (lb,off/64*2) (fun w' hS=>?_) ?_
 ·go_simp
 refine tkS (lb,off/64*2) (fun w' hS=>?_) ?_
 ·go_simp
 refine tkS (lb,off/64*2+1) (fun w' hS=>?_) ?_
 ·go_simp
 refine tkS (.slice hA m hc) (fun w' hS=>?_) ?_
 ·obtain⟨s1,s2,s3⟩:=hS
  go_simp
 refine tkS [m] (fun w' hS=>?_) ?_
 ·go_simp
 refine tkS m (fun w' hS=>?_) ?_
 ·go_simp
 refine tkS (.int .u64 ((dn:Int)+(m:Int))) (fun w' hS=>?_) ?_
 ·go_simp
 show wpList _ _ _ _ _ _;simp only[List.drop_succ_cons,List.drop_zero];clear u1 u2;go_wp2_with (at_mapUpdate;refine wpList_mapUpdate_own _ rfl _ _ _ 215 rfl 3 32 (int_keyed Tryz.underlying3) Tryz.underlying215 _ nb F (.map l) rfl Ga.out ?q1 _ _ _ rfl rfl (keyOf_int_mk Tryz.underlying3 ?q2) _ [] (plainElem_int Tryz.underlying32 ?q3) ?_;(case q1=>(unfold maxLen;omega));(case q2=>exact WalkArith.wf_i64 ⟨oM,oM⟩);(case q3=>exact WalkArith.wf_u64 ⟨oM,oM⟩);intro w1 hown1 hg1;have HM:=hid hown1;have HG:=hid hg1;clear hown1 hg1)
 refine NoPanic.normal ?_;go_wp2;go_end0;refine⟨rfl,?_,HG.out⟩;rw[show((off/64:Nat):Int)=(off:Int)/64 by omega,show((dn+m:Nat):Int)=(dn:Int)+(m:Int) by omega];exact HM.out
section
variable{a:DA}{L T:Nat}{w:World}{S:Fp}{cur:Nat->Nat}{s:LS}{exe:Int}{per cs ls:Array Value}{F:Nat}
theorem w0u{D N}(h:DevC a L T w S cur s exe per cs ls)(hN:x0t a L w s N F)(hCl:y0a L s D)(off:Nat)(hlt:off<64*L)(hF:F<1000000000):
  () 374 #[(a.th 0,()),off] w (z5e a L T w S cur D (fun i=>N i\/i=off/64) (F+1) (.tuple #[])):=by
 obtain⟨f0,f2,Ge,f1,_⟩:=h.facts (j:=0) oM;have hi:off/64<L:=oM;have ho:=h.own _ hi;have Gf:=h.few _ hi;have hT:=h.hT;obtain⟨hA,hc,hv⟩:=z4f ho;have Gd:=h.thr 0 oM;have n1:a.d≠a.th 0:=h.dev.ne_ Gd (by decide);have n2:a.d≠a.lb:=h.dev.ne_ h.linB (by decide);obtain⟨l0,Ga,Gb,Gh⟩:=hN;have n3:=z0p Ga h.dev;refine(x7m L a.d (a.th 0) a.lb (a.nt 0) exe off F (s.dn (off/64)) hA (s.m (off/64)) hc l0 w hlt h.hL oM hF f0 f2 Ge (h.dev.cell 12) (h.dev.cell 14) (h.dev.frozen 14) (Gd.cell 3)
  (by rw[h.linB.cell,h.linD _ hi]) (by rw[h.linB.cell,h.linH _ hi,hv]) Ga n1 n2 n3).mono ?_
 rintro e w'⟨rfl,Gg,hg⟩;have Gc:∀{g:Nat}{t:TypeId}{cs:Array Value},Blk w g t cs->some g≠some (a.nt 0):=fun hB e=>by injection e with e;exact z0p Ga hB e.symm
 have k0:∀{g:Nat}{t:TypeId}{xs:Array Value},Blk w g t xs->g≠a.d->Blk w' g t xs:=fun hB h1=>((hB.far (p:=⟨a.d,14,none⟩) h1 _).drew).grown hg (Gc hB)
 have kd:Blk w' a.d _ (y0t a L (IntKind.u64.wrap (exe+1))):=((h.dev.set_ 14 _).drew).grown hg (Gc h.dev);have Gi:w.heap.size<=w'.heap.size:=by have:=hg.size;simp at this;exact this
 refine⟨rfl,S,⟨s,IntKind.u64.wrap (exe+1),per,cs,ls,?_,?_,hCl⟩,?_,Grew.refl _ _⟩
 ·exact
  {h with
   dev:=kd
   perB:=k0 h.perB (h.perB.ne_ h.dev (by decide))
   curB:=k0 h.curB (h.curB.ne_ h.dev (by decide))
   linB:=k0 h.linB (h.linB.ne_ h.dev (by decide))
   own:=fun k hk=>by
    have h1:=h.own k hk;have h2:=(ownsRow_setCell_other h1 (a:=⟨a.d,14,none⟩) (z0l h1 h.dev (by decide)) (IntKind.u64.wrap (exe+1))).drew;refine h2.kept hg ?_;cases hb:(s.h k).ownBlock with
    |none=>exact .inl rfl
    |some g=>exact .inr (fun e=>z2j Ga h1 (by rw[hb];exact e.symm))
   thr:=fun j hj=>k0 (h.thr j hj) ((h.thr j hj).ne_ h.dev (by decide))
   lt:=fun k hk=>by have:=h.lt k hk;omega }
 ·refine⟨_,Gg,fun p hp=>?_,fun i hiN hiL=>?_⟩
  ·rcases y4t hp with hp|hp
   ·exact⟨off/64,hi,hp⟩
   ·exact Gb p (List.mem_filter.1 hp).1
  ·by_cases hio:i=off/64
   ·subst hio
    exact⟨_,y2p _ _,rfl⟩
   ·obtain⟨p,hp,he⟩:=Gh i (hiN.resolve_right hio) hiL
    refine⟨p,y4q (List.mem_filter.2 ⟨hp,?_⟩),he⟩;rw[he];simp[Lit.sameKey];omega
 ·exact(((Chg.refl S w).setCell (p:=⟨a.d,14,none⟩) (.inl h.sd) _).drew).grown hg (fun g hg'=>by injection hg' with hg';subst hg';exact .inl h.sn)
end
end
section
open Go.RowKit
def Ints(n:Nat)(cs:Array Value)(f:Nat->Nat):Prop:=cs.size=n/\∀i,i<n->cs[i]?=some (.int .u64 (f i:Int))
theorem Ints.set{n cs f}(h:Ints n cs f){j}(hj:j<n)(v:Nat):Ints n (cs.setIfInBounds j v) (upd f j v):=by
 refine⟨by simpa using h.1,fun i hi=>?_⟩;rw[z5y i (by rw[h.1];exact hj)];unfold upd;by_cases hij:i=j
 ·rw[if_pos hij,if_pos hij]
 ·rw[if_neg hij,if_neg hij];exact h.2 i hi
def w3s(w:World)(pb n:Nat)(f:Nat->Nat)(e:Ending)(w':World):Prop:=e=.returned (.tuple #[])/\∃cs,Blk w' pb 32 cs/\Ints n cs f/\Chg (fun k=>k=pb) w w'
theorem x9y L pb g m hc per (xs:List Value) (f:Nat->Nat) ws (hxs:xs=z0a ws) w (hB:Blk w pb 32 per) (hI:Ints (8*L) per f) (own:w.ownsRow 0 117 2 (.slice (some ⟨g,0,none⟩) m hc) m xs) (hok:y7o L m xs) (hm:m<=1000000000) (hL:L<=4096) :
  Calls Tryz.prog 148 #[.slice (some ⟨pb,0,none⟩) (8*L) (8*L),.slice (some ⟨g,0,none⟩) m hc] w (w3s w pb (8*L) (wrS f ws)):=by
 have Gj:g≠pb:=fun e=>z0l own hB (by decide) (by rw[e];rfl)
 have HR:=hid own;have Gi:=hid hok;have HX:=hid hxs;have Gg:Hid (ws.length=m):=hid (by have h1:=own.1;rw[hxs,z1a]at h1;omega);have H0:Hid (∃cs,Blk w pb 32 cs/\Ints (8*L) cs (wrS f (ws.take 0))/\Chg (fun k=>k=pb) w w):=⟨per,hB,hI,Chg.refl _ _⟩
 have Gk:=(own.lt g rfl).2;clear own hok hB hI hxs;go_enter Tryz.func148,Tryz.ntmps148
 go_wp2;go_loopw [8] (fun i wr=>∃(k:Nat),k<=m/\i=.int .i64 k/\Hid (∃cs,Blk wr pb 32 cs/\Ints (8*L) cs (wrS f (ws.take k))/\Chg (fun k=>k=pb) w wr)) (fun i _=>m-(RowKit.intOf i).toNat)
 case atStart=>exact⟨0,Nat.zero_le _,rfl,H0⟩
 case round =>
  clear H0;obtain⟨k,hk,rfl,H⟩:=hrel;by_cases hlt:k<m
  ·obtain⟨cs,hB,hI,hC⟩:=H.out
   obtain⟨o0,v0,q1,_,Ge⟩:=Gi.out k hlt;have Gd:k<ws.length:=by rw[Gg.out];exact hlt
   obtain⟨⟨o,v⟩,hov⟩:∃e,ws[k]=e:=⟨_,rfl⟩
   have Gh:=z2v ws k Gd;rw[hov]at Gh;obtain⟨g1,g2⟩:=Gh;simp only at g1 g2;rw[<- HX.out]at g1 g2;have Gm:o<64*L:=by
    rw[g1]at q1;injection q1 with q1
    injection q1 with _ q1
    omega
   have Gf:Hid (wrS f (ws.take (k+1))=upd (wrS f (ws.take k)) (o/8) v):=hid (by rw[List.take_succ_eq_append_getElem Gd,x5u,hov]);clear q1 Ge hov;have Ga:∀j u,xs[j]?=some u->wr.cell? ⟨g,j,none⟩=some u:=fun j u hu=>by
    have h1:=(hC.own HR.out (fun g' hg'=>by simp[Value.ownBlock]at hg';subst hg';exact Gj)).cells (g:=g) rfl j u hu;have ha:(⟨g,0,none⟩:Addr).add j=⟨g,j,none⟩:=by unfold Addr.add;split<;>simp_all
    rw[ha]at h1;exact h1
   have c1:=Ga _ _ g1;have c2:=Ga _ _ g2;obtain⟨Gc,Gb⟩:∃Gc:Int,cs[o/8]?=some (.int .u64 Gc):=⟨_,hI.2 (o/8) oM⟩
   have c3:wr.cell? ⟨pb,o/8,none⟩=some (.int .u64 Gc):=by rw[hB.cell];exact Gb
   have c4:∀ob,(wr.alloc ob).cell? ⟨pb,o/8,none⟩=some (.int .u64 Gc):=fun ob=>((hB.alloc ob).cell _).trans Gb
   have z4:∀ob,(wr.alloc ob).frozen? ⟨pb,o/8,none⟩=false:=fun ob=>(hB.alloc ob).frozen _
   have e2:(o:Int)/8<8*(L:Int):=oM;have e3:(0:Int)<=(o:Int)/8:=oM;have e4:((o:Int)/8).toNat=o/8:=oM;have Gn:(0:Int)<=(k:Int):=oM;have Gp:(k:Int)<(m:Int):=oM;have Gl:=hB.lt;have HN:Hid (∃cs,Blk ((wr.setCell ⟨pb,o/8,none⟩ (.int .u64 v)).alloc (.cells #[.int .u64 o,.int .u64 v] 117)) pb 32 cs/\Ints (8*L) cs (wrS f (ws.take (k+1)))/\Chg (fun k=>k=pb) w ((wr.setCell ⟨pb,o/8,none⟩ (.int .u64 v)).alloc (.cells #[.int .u64 o,.int .u64 v] 117))) :=
    ⟨_,(hB.set_ (o/8) _).alloc _,by rw[Gf.out];exact hI.set oM v,(hC.setCell (p:=⟨pb,o/8,none⟩) (.inl rfl) _).alloc _⟩
   clear Ga hB hI hC Gb g1 g2 H Gf Gd;go_wp2;go_roundw
   case rel=>exact⟨k+1,oM,by go_num,HN⟩
   case measure=>simp[RowKit.intOf];omega
  ·obtain rfl:m=k:=oM
   go_wp2;go_end0;obtain⟨cs,hB,hI,hC⟩:=H.out;rw[List.take_of_length_le (by rw[Gg.out];exact nL _)]at hI;exact⟨rfl,cs,hB,hI,hC⟩
theorem w4q{w g}{t:TypeId}{cs}(h:Blk w g t cs) j u v:Blk ((w.setCell (g,j) u).setCell (g,j) v) g t (cs.setIfInBounds j v):=by
 have h1:=(h.set_ j u).set_ j v;rw[Array.setIfInBounds_setIfInBounds]at h1;exact h1
def x5z(w:World)(pb lb n i:Nat)(dn:Int)(ls:Array Value)(f:Nat->Nat)(e:Ending)(w':World):Prop:=e=.returned (.tuple #[])/\∃cs,Blk w' pb 32 cs/\Ints n cs f /\
 Blk w' lb 243 ((ls.setIfInBounds (i*2) dn).setIfInBounds (i*2+1) ((),()))/\Chg (fun k=>k=pb\/k=lb) w w'
theorem y9z(L d pb lb g m hc i dn:Nat)(per ls:Array Value)(xs:List Value)(f:Nat->Nat)(ws:List (Nat×Nat))(hxs:xs=z0a ws)(w:World)(hi:i<L)(hB:Blk w pb 32 per)(hI:Ints (8*L) per f)(own:w.ownsRow 0 117 2 (.slice (some (g,())) m hc) m xs)(hok:y7o L m xs)(hm:dn+m<=1000000000)(hL:L<=4096)
  (f0:w.cell? (d,())=some (.slice (some (pb,())) (8*L) (8*L))) (f2:w.cell? ⟨d,2,none⟩=some (.slice (some (lb,())) L L)) (hl:Blk w lb 243 ls) (l0:ls[i*2]?=some (.int .u64 dn)) (l1:ls[i*2+1]?=some (.slice (some (g,())) m hc)) :
  () 375 #[(d,()),[i],[m]] w (x5z w pb lb (8*L) i ((dn+m:Nat):Int) ls (wrS f ws)):=by
 have Gc:=z4p own;have Gb:lb≠pb:=hl.ne_ hB (by decide);have c1:w.cell? (lb,i*2+1)=some (.slice (some (g,())) m hc):=by rw[hl.cell];exact l1
 have Ga:=hid (x9y L pb g m hc per xs f ws hxs w.drew hB hI own hok oM hL);have HL:=hid hl;have L0:=hid l0;have L1:=hid l1;have e6:(i:Int)<(L:Int):=oM;have e7:(0:Int)<=(i:Int):=oM;have e8:(0:Int)<=(m:Int):=oM;have e9:(m:Int)<=(hc:Int):=oM;have u1:IntKind.u64.wrap (m:Int)=(m:Int):=by rw[IntKind.wrap_u64];omega
 have u2:IntKind.u64.wrap ((dn:Int)+(m:Int))=(dn:Int)+(m:Int):=by rw[IntKind.wrap_u64];omega
 clear hB hI own hok hl l0 l1 hxs;go_enter Tryz.func375,Tryz.ntmps375
 go_wp2;refine z0f (fun w'=>w'.cell? (d,())=some (.slice (some (pb,())) (8*L) (8*L))/\w'.cell? (lb,i*2+1)=some (.slice (some (g,())) m hc)) 10 [(true,0),(true,1),(true,2),(true,3),(true,4),(true,5),(true,6),(true,7),(true,8),(true,9)] (by kernel_rfl) (by kernel_rfl) ⟨f0,c1⟩ ?_;clear f0 f2 c1;refine tkS (d,()) (fun w' hS=>?_) ?_
 ·go_simp
 refine tkS (d,()) (fun w' hS=>?_) ?_
 ·go_simp
 refine tkS (d,()) (fun w' hS=>?_) ?_
 ·go_simp
 refine tkS (.slice (some (pb,())) (8*L) (8*L)) (fun w' hS=>?_) ?_
 ·obtain⟨s1,s2⟩:=hS
  go_simp
 refine tkS (lb,i*2) (fun w' hS=>?_) ?_
 ·go_simp
 refine tkS (lb,i*2) (fun w' hS=>?_) ?_
 ·go_simp
 refine tkS (lb,i*2+1) (fun w' hS=>?_) ?_
 ·go_simp
 refine tkS (.slice (some (g,())) m hc) (fun w' hS=>?_) ?_
 ·obtain⟨s1,s2⟩:=hS
  go_simp
 refine tkS [m] (fun w' hS=>?_) ?_
 ·go_simp
 refine tkS (.slice (some (g,())) m hc) (fun w' hS=>?_) ?_
 ·go_simp
 show wpList _ _ _ _ _ _;simp only[List.drop_succ_cons,List.drop_zero];go_wp2_with fail
 refine Ga.out.mono ?_;rintro e W⟨rfl,cs,hB,hI,hC⟩;have hl:Blk W lb 243 ls:=Chg.blk (w:=w) ⟨hC.os,hC.tape,hC.output,hC.size,hC.block⟩ HL.out Gb;have d0:W.cell? (lb,i*2)=some ↑dn:=(hl.cell _).trans L0.out;have d1:W.cell? (lb,i*2+1)=some (.slice (some (g,())) m hc):=(hl.cell _).trans L1.out;have z0:=hl.frozen (i*2);have z1:=hl.frozen (i*2+1);have HB:=hid hB;have HI:=hid hI;have HC:=hid hC;have HW:=hid hl;clear hB hI hC hl Ga;go_wp2_with fail
 refine NoPanic.normal ?_;go_wp2;all_goals
  go_end0;refine⟨rfl,cs,?_,HI.out,?_,?_⟩
  ·iterate 3 (refine Blk.far ?_ (fun e=>Gb e.symm) _)
   exact HB.out
  ·exact w4q (HW.out.set_ (i*2) (.int .u64 ((dn:Int)+(m:Int)))) _ _ _
  ·iterate 3 (refine Chg.setCell ?_ (.inl (.inr rfl)) _)
   exact Chg.mono (S:=fun k=>k=pb) (w:=w) ⟨HC.out.os,HC.out.tape,HC.out.output,HC.out.size,HC.out.block⟩ (fun k hk => .inl hk)
end
section
open Go.RowKit Go.Maps
def z1r(s:LS)(i:Nat):LS:=⟨fun k=>if k=i then s.dn i+s.m i else s.dn k,fun k=>if k=i then 0 else s.m k,fun k=>if k=i then .slice none 0 0 else s.h k,fun k=>if k=i then []else s.xs k,wrS s.pw (s.ws i),fun k=>if k=i then []else s.ws k⟩
def w8v(a:DA)(L T:Nat)(w:World)(S:Fp)(cur:Nat->Nat)(s:LS)(exe:Int)(cs:Array Value)(i:Nat)(e:Ending)(w':World):Prop :=
 e=.returned (.tuple #[])/\(∃per' ls',DevC a L T w' S cur (z1r s i) exe per' cs ls')/\Chg (fun k=>k=a.pb\/k=a.lb) w w'
section
variable{a:DA}{L T:Nat}{w:World}{S:Fp}{cur:Nat->Nat}{s:LS}{exe:Int}{per cs ls:Array Value}
theorem x3b(h:DevC a L T w S cur s exe per cs ls) i (hi:i<L) (hm:0<s.m i) :
  () 375 #[(a.d,0),[i],[s.m i]] w (w8v a L T w S cur s exe cs i):=by
 have ho:=h.own i hi;obtain⟨hA,hc,hv⟩:=z4f ho;rw[hv]at ho;obtain⟨g,Ge,Gd,_,_⟩:=ho.form hm;have Gb:hA=some (g,0):=by injection Gd
 subst Gb;have Gf:=h.linS;have Gc:=h.few i hi;have hT:=h.hT;refine(y9z L a.d a.pb a.lb g (s.m i) hc i (s.dn i) per ls (s.xs i) s.pw (s.ws i) (h.hx i hi) w hi h.perB ⟨h.perS,h.pv⟩ ho (h.ok i hi) oM h.hL (h.dev.cell 0) (h.dev.cell 2) h.linB (h.linD i hi) (by rw[h.linH i hi,hv])).mono ?_;rintro e w'⟨rfl,Ga,hB,hI,hl,hC⟩;have n1:∀{k:Nat}{t:TypeId}{xs:Array Value},Blk w k t xs->t≠32->t≠243->¬(k=a.pb\/k=a.lb):=fun hB h1 h2 hk=>by
  rcases hk with rfl|rfl
  ·exact hB.ne_ h.perB h1 rfl
  ·exact hB.ne_ h.linB h2 rfl
 refine⟨rfl,⟨Ga,(ls.setIfInBounds (i*2) (s.dn i+s.m i:Nat)).setIfInBounds (i*2+1) ((),()),?_⟩,hC⟩;exact
 {dev:=hC.blk h.dev (n1 h.dev (by decide) (by decide))
  perB:=hB
  perS:=hI.1
  perI:=fun k hk=>⟨_,hI.2 k hk⟩
  curB:=hC.blk h.curB (fun hk=>by
   rcases hk with hk|hk
   ·exact h.ne hk.symm
   ·exact h.curB.ne_ h.linB (by decide) hk)
  curS:=h.curS
  curL:=h.curL
  curM:=h.curM
  curI:=h.curI
  linB:=hl
  linS:=by simpa using h.linS
  linD:=fun k hk=>by
   rw[z5y _ (by simp;omega),if_neg oM,z5y _ oM];by_cases hki:k=i
   ·rw[if_pos oM];simp only[z1r,if_pos hki]
   ·rw[if_neg oM];simp only[z1r,if_neg hki];exact h.linD k hk
  linH:=fun k hk=>by
   rw[z5y _ (by simp;omega)];by_cases hki:k=i
   ·rw[if_pos oM];simp only[z1r,if_pos hki]
   ·rw[if_neg oM,z5y _ oM,if_neg oM];simp only[z1r,if_neg hki];exact h.linH k hk
  own:=fun k hk=>by
   by_cases hki:k=i
   ·simp only[z1r,if_pos hki];exact World.ownsRow_nil _ _ _ _
   ·simp only[z1r,if_neg hki]
    refine hC.own (h.own k hk) (fun g hg hk'=>?_);rcases hk' with rfl|rfl
    ·exact z0l (h.own k hk) h.perB (by decide) hg
    ·exact z0l (h.own k hk) h.linB (by decide) hg
  ok:=fun k hk=>by
   by_cases hki:k=i
   ·simp only[z1r,if_pos hki];intro j hj;omega
   ·simp only[z1r,if_neg hki];exact h.ok k hk
  few:=fun k hk=>by
   by_cases hki:k=i
   ·subst hki;simp only[z1r,if_true];omega
   ·simp only[z1r,if_neg hki];exact h.few k hk
  apart:=fun x y g hx hy h1 h2=>by
   by_cases hx':x=i
   ·simp only[z1r,if_pos hx',Value.ownBlock]at h1;cases h1
   ·by_cases hy':y=i
    ·simp only[z1r,if_pos hy',Value.ownBlock]at h2;cases h2
    ·simp only[z1r,if_neg hx']at h1
     simp only[z1r,if_neg hy']at h2;exact h.apart x y g hx hy h1 h2
  thr:=fun j hj=>hC.blk (h.thr j hj) (n1 (h.thr j hj) (by decide) (by decide))
  sd:=h.sd
  sp:=h.sp
  sc:=h.sc
  sl:=h.sl
  sn:=h.sn
  st:=h.st
  sh:=fun k g hk hg=>by
   by_cases hki:k=i
   ·simp only[z1r,if_pos hki,Value.ownBlock]at hg;cases hg
   ·simp only[z1r,if_neg hki]at hg;exact h.sh k g hk hg
  lt:=fun k hk=>Nat.lt_of_lt_of_le (h.lt k hk) hC.size
  ne:=h.ne
  hL:=h.hL
  hT:=h.hT
  pv:=hI.2
  hx:=fun k hk=>by
   by_cases hki:k=i
   ·simp only[z1r,if_pos hki];rfl
   ·simp only[z1r,if_neg hki];exact h.hx k hk
  lin:=fun k hk e he=>by
   by_cases hki:k=i
   ·simp only[z1r,if_pos hki]at he;cases he
   ·simp only[z1r,if_neg hki]at he;exact h.lin k hk e he
  link:=fun k hk=>by
   by_cases hki:k/8=i
   ·simp only[z1r,if_pos hki]
    show wrS s.pw (s.ws i) k=cur k;rw[<- hki];exact h.link k hk
   ·simp only[z1r,if_neg hki]
    refine(x0s _ _ s.pw k (x5t _ _ k (fun e he h1=>hki ?_))).trans (h.link k hk);have:=h.lin i hi e he;omega }
theorem y8s s i k:(z1r s i).ws k=[]\/(z1r s i).ws k=s.ws k:=by
 by_cases hki:k=i
 ·exact .inl (by simp[z1r,hki])
 ·exact .inr (by simp[z1r,hki])
theorem DevC.none(h:DevC a L T w S cur s exe per cs ls){i}(hi:i<L)(hm:s.m i=0):s.ws i=[]:=by
 have h1:=(h.own i hi).1;rw[h.hx i hi,z1a,hm]at h1;exact List.eq_nil_of_length_eq_zero oM
theorem x7c s i k:(z1r s i).dn k+(z1r s i).m k=s.dn k+s.m k:=by
 by_cases hki:k=i
 ·subst hki;simp[z1r]
 ·simp[z1r,hki]
end
theorem w0b{H:Type}[Inhabited H]{l:List (Lit×DataW H)}{kl:Lit}{d:DataW H}(h:∀zd,(DataW.map l).atKey kl zd=d):∃p∈l,p.1.sameKey kl=true/\p.2=d:=by
 cases hf:l.find? (fun p=>p.1.sameKey kl)with
 |some p =>
  refine⟨p,List.mem_of_find?_eq_some hf,by simpa using List.find?_some hf,?_⟩;have:=h .nil;simpa[DataW.atKey,hf] using this
 |none =>
  have h1:=h .nil;have h2:=h (.map []);simp[DataW.atKey,hf]at h1 h2;rw[<- h1]at h2;cases h2
theorem w0k{H:Type}{P:Program}{k e t:TypeId}{R:Value->Option (DataW H×List MemPlace)}{w:World}{b n:Nat}{D:DataW H}(h:w.ownsMap P k R b n D)(ht:P.underlying t=some (.map k e)):
  ∃w',(∀ty,(Builtin.clear_ #[t] ty #[.map (some b)]).run P w=.ok (.tuple #[]) w')/\w'.ownsMap P k R b 0 (.map [])/\w.grownBy w' (some b):=by
 obtain⟨es,Ga,hb,F,_,_⟩:=h;have hs:=ChangeMaps.heap_setBlock_same hb (.map #[] Ga);refine⟨ChangeMaps.setBlock w b (.map #[] Ga),fun ty=>?_,⟨#[],Ga,hs,⟨by simp,MapKept.stamped_empty Ga,by simp⟩,nL _,rfl⟩,⟨rfl,rfl,rfl,by simp[ChangeMaps.setBlock],fun i _ hi=>ChangeMaps.heap_setBlock_other hb _ (fun e=>hi (by rw[e]))⟩⟩;simp[Builtin.clear_,run_underlying ht,MapKept.run_getObj_map hb,MapKept.run_setObj_map _ hb,Result.andThen,ChangeMaps.setBlock]
theorem x8e{H:Type}{P:Program}{k:TypeId}{R:Value->Option (DataW H×List MemPlace)}{w w':World}{b r n:Nat}{D:DataW H}{left:Lit->Bool}{cnt:Nat}{Z:Fp}(h:w.ranges P k R b r n D left cnt)(hc:Chg Z w w')(hb':¬Z b)(hr':¬Z r):w'.ranges P k R b r n D left cnt:=by
 have h1:=h.owns.lt;have h2:=h.lt;obtain⟨es,Ga,Gb,Gd,c0,hb,F,hs,hD,hr,Gc⟩:=h;exact⟨es,Ga,Gb,Gd,c0,(hc.block b h1 hb').trans hb,F,hs,hD,(hc.block r h2 hr').trans hr,Gc⟩
theorem DevC.note{a:DA}{L T:Nat}{w w':World}{S:Fp}{cur:Nat->Nat}{s:LS}{exe:Int}{per cs ls:Array Value}{H:Type}{P:Program}{k:TypeId}{R:Value->Option (DataW H×List MemPlace)}{n:Nat}{D:DataW H}(h:DevC a L T w S cur s exe per cs ls)(hmap:w.ownsMap P k R (a.nt 0) n D)(hg:w.grownBy w' (some (a.nt 0))):DevC a L T w' S cur s exe per cs ls:=by
 have Ga:∀{g:Nat}{t:TypeId}{cs:Array Value},Blk w g t cs->some g≠some (a.nt 0):=fun hB e=>by injection e with e;exact z0p hmap hB e.symm
 have Gb:=hg.size;exact
  {h with
   dev:=h.dev.grown hg (Ga h.dev)
   perB:=h.perB.grown hg (Ga h.perB)
   curB:=h.curB.grown hg (Ga h.curB)
   linB:=h.linB.grown hg (Ga h.linB)
   own:=fun k hk=>by
    have h1:=h.own k hk;refine h1.kept hg ?_;cases hb:(s.h k).ownBlock with
    |none=>exact .inl rfl
    |some g=>exact .inr (fun e=>z2j hmap h1 (by rw[hb];exact e.symm))
   thr:=fun j hj=>(h.thr j hj).grown hg (Ga (h.thr j hj))
   lt:=fun k hk=>by have:=h.lt k hk;omega }
theorem v0c{H:Type}{l:List (Lit×DataW H)}{p:Lit×DataW H}(hp:p∈l){i:Int}(he:p.1=.int .i64 i):Maps.has (.map l) (.int .i64 i)=true:=by
 rw[Maps.has_eq];exact List.any_eq_true.2 ⟨p,hp,by rw[he];simp[Lit.sameKey]⟩
def x9a(a:DA)(L T:Nat)(w wr:World)(S:Fp)(cur:Nat->Nat)(s:LS)(exe:Int)(cs:Array Value)(F r:Nat)(l:List (Lit×DataW Unit))(left:Lit->Bool)(cnt:Nat):Prop :=
 w.heap.size<=r/\wr.ranges Tryz.prog 3 (plainElem Tryz.prog 32) (a.nt 0) r F (.map l) left cnt/\(∃s' per' ls',DevC a L T wr S cur s' exe per' cs ls'/\(∀i,s'.dn i+s'.m i=s.dn i+s.m i)/\(∀i,s'.ws i=[]\/s'.ws i=s.ws i)/\∀i:Nat,i<L->(∃p∈l,p.1=.int .i64 i)->left (.int .i64 i)=false->s'.ws i=[])/\Chg S w wr
theorem w0p{a L T w S cur s exe per cs ls F D N}(h:DevC a L T w S cur s exe per cs ls)(hN:x0t a L w s N F)(hCl:y0a L s D):
  Calls Tryz.prog 373 #[.pointer (some ⟨a.th 0,0,none⟩)] w (z5e a L T w S cur (fun k=>D k/\¬N (k/8)) (fun _=>False) 0 (.tuple #[])):=by
 obtain⟨f0,f2,GG,f1,_⟩:=h.facts (j:=0) oM;obtain⟨l,Gf,Gb,G5⟩:=hN;have GD:=hid Gb;have GC:=hid G5;have G9:=hid hCl;have Gs:=h.thr 0 oM;have n1:a.d≠a.th 0:=h.dev.ne_ Gs (by decide);have GN:=n1.symm;have hT:=h.hT;have hL:=h.hL;have GH:w.cell? ⟨a.d,12,none⟩=some (.bool false):=h.dev.cell 12;have GI:w.cell? ⟨a.d,14,none⟩=some (.int .u64 exe):=h.dev.cell 14;have GL:=h.dev.frozen 14;have f3:w.cell? ⟨a.th 0,3,none⟩=some (.map (some (a.nt 0))):=Gs.cell 3;have Gj:Hid ((w.setCell ⟨a.d,14,none⟩ (.int .u64 (IntKind.u64.wrap (exe+1)))).ownsMap Tryz.prog 3 (plainElem Tryz.prog 32) (a.nt 0) F (.map l)):=Gf.setCell (a:=⟨a.d,14,none⟩) (z0p Gf h.dev) _;have Ga:Hid (DevC a L T (w.setCell ⟨a.d,14,none⟩ (.int .u64 (IntKind.u64.wrap (exe+1)))) S cur s (IntKind.u64.wrap (exe+1)) per cs ls) :=
  {h with
   dev:=h.dev.set_ 14 _
   perB:=h.perB.far (p:=⟨a.d,14,none⟩) (h.perB.ne_ h.dev (by decide)) _
   curB:=h.curB.far (p:=⟨a.d,14,none⟩) (h.curB.ne_ h.dev (by decide)) _
   linB:=h.linB.far (p:=⟨a.d,14,none⟩) (h.linB.ne_ h.dev (by decide)) _
   own:=fun k hk=>ownsRow_setCell_other (h.own k hk) (a:=⟨a.d,14,none⟩) (z0l (h.own k hk) h.dev (by decide)) _
   thr:=fun j hj=>(h.thr j hj).far (p:=⟨a.d,14,none⟩) ((h.thr j hj).ne_ h.dev (by decide)) _
   lt:=fun k hk=>by have:=h.lt k hk;simpa using this }
 have Gv:Hid (Chg S w (w.setCell ⟨a.d,14,none⟩ (.int .u64 (IntKind.u64.wrap (exe+1))))):=(Chg.refl S w).setCell (p:=⟨a.d,14,none⟩) (.inl h.sd) _;have GF:=hid h.sn;have Gq:=hid h.lt;obtain⟨r,hr⟩:∃r,r=(w.setCell ⟨a.d,14,none⟩ (.int .u64 (IntKind.u64.wrap (exe+1)))).heap.size:=⟨_,rfl⟩
 have HR:=hid hr;clear hr;clear h Gf Gb Gs G5 hCl;go_enter Tryz.func373,Tryz.ntmps373
 go_wp2_with (first
  |(at_range;refine wpList_range_own _ rfl _ 215 rfl 3 32 (int_keyed Tryz.underlying3) Tryz.underlying215 _ (a.nt 0) F (.map l) rfl Gj.out ?_;intro w0 hrg0 hg0 hs0;rw[<- HR.out]at hrg0⊢;have Gx:Hid (x9a a L T w w0 S cur s (IntKind.u64.wrap (exe+1)) cs F r l (Maps.has (.map l)) (Maps.size (DataW.map l))):=⟨by rw[HR.out];simp,hrg0,⟨s,per,ls,Ga.out.chg (Z:=Fp.no) ((Chg.refl _ _).grown hg0 (fun g hg=>by cases hg)) (fun _ _ h=>h),fun _=>rfl,fun _ => .inr rfl,fun i _ hp hl=>by obtain⟨p,hp,he⟩:=hp;exact absurd hl (by rw[v0c hp he];decide)⟩,Gv.out.grown hg0 (fun g hg=>by cases hg)⟩;clear hrg0 hg0 hs0)
  |go_in)
 go_frame
 clear f0 f2 GG f1 GH GI GL f3 Gj Ga Gv;go_loopw [2] (fun _ wr=>∃(Gg:Lit->Bool)(G1:Nat),Hid (x9a a L T w wr S cur s (IntKind.u64.wrap (exe+1)) cs F r l Gg G1)) (fun _ wr=>wr.rangeLeft (a.nt 0) r)
 case atStart=>exact⟨_,_,Gx⟩
 case round =>
  clear Gx;obtain⟨Gg,G1,H⟩:=hrel;go_wp2_with (first
   |(at_next;refine wpList_next_ranges_ii _ rfl _ rfl 3 32 .i64 .u64 (int_keyed Tryz.underlying3) Tryz.underlying3 Tryz.underlying32 (a.nt 0) r F _ _ _ rfl H.out.2.1 ?_ ?_)
   |go_in)
  ·intro _ hleft
   obtain⟨Gn,Gi,⟨s',Gh,Gt,hd,Gc,Gm,Gl⟩,hC⟩:=H.out;have Gp:Hid (y0a L s' (fun k=>D k/\¬N (k/8))):=hid (fun k hk hnd e he=>by
    rcases Gm (k/8)with h1|h1
    ·rw[h1]at he;cases he
    ·by_cases hN:N (k/8)
     ·rw[Gl (k/8) oM (GC.out _ hN oM) (hleft _)]at he;cases he
     ·rw[h1]at he
      exact G9.out k hk (fun hd=>hnd ⟨hd,hN⟩) e he)
   clear Gm Gl hleft;obtain⟨W',GM,Ge,G4⟩:=w0k Gi.owns (t:=215) Tryz.underlying215;have g3:wr.cell? ⟨a.th 0,3,none⟩=some (.map (some (a.nt 0))):=(hd.thr 0 oM).cell 3;have HD:=hid hd;have HC:=hid hC;have HM:=hid Ge;have HG:=hid G4;have HO:=hid Gi.owns;clear hd hC Ge G4 Gi Gc;go_wp2;go_end0;refine⟨rfl,S,⟨s',_,Gh,cs,Gt,HD.out.note HO.out HG.out,⟨[],HM.out,(fun p hp=>by cases hp),fun _ h=>h.elim⟩,Gp.out⟩,HC.out.grown HG.out (fun g hg=>by injection hg with hg;subst hg;exact .inl GF.out),Grew.refl _ _⟩
  ·intro x c w1 cnt1 hwx hwc hlx hat hrg1 hlt hg1 hs1 hen
   obtain⟨p,hp,G8,G6⟩:=w0b hat;obtain⟨i,hi,rfl⟩:=GD.out p hp;obtain⟨Gn,Gi,⟨s',Gh,Gt,hd,Gc,Gm,Gl⟩,hC⟩:=H.out;have hx:x=(i:Int):=by simpa[Lit.sameKey,eq_comm] using G8
   have hc:c=((s'.dn i+s'.m i:Nat):Int):=by
    rw[Gc i];simpa[eq_comm] using G6
   subst hx hc;have G7:∀k,S k->¬k=r:=fun k hk e=>by have:=Gq.out k hk;omega
   have G2:Chg (fun k=>k=r) wr w1:=(Chg.refl _ _).grown hg1 (fun g hg=>by injection hg with hg;exact .inl hg.symm);have Gd:=hd.chg G2 G7;have g0:w1.cell? ⟨a.th 0,0,none⟩=some (.pointer (some ⟨a.d,0,none⟩)):=(Gd.thr 0 oM).cell 0;have g2:w1.cell? ⟨a.d,2,none⟩=some (.slice (some ⟨a.lb,0,none⟩) L L):=Gd.dev.cell 2;have gl:w1.cell? ⟨a.lb,i*2,none⟩=some (.int .u64 (s'.dn i:Int)):=by rw[Gd.linB.cell];exact Gd.linD i hi
   have GJ:=Gd.few i hi;have Gj:Hid (w1.rangeLeft (a.nt 0) r<wr.rangeLeft (a.nt 0) r):=show _<_ by rw[hrg1.left_eq,Gi.left_eq];exact hlt
   have Gw:Hid (Chg S w w1):=hC.grown hg1 (fun g hg=>by injection hg with hg;subst hg;exact .inr Gn);have GE:=hid (fun hm=>x3b Gd i hi hm);have Ga:=hid Gd;have Gk:=hid hrg1;have Gy:=hid Gc;have G0:=hid Gm;have Gz:Hid (∀s'':LS,(∀j,s''.ws j=[]\/s''.ws j=s'.ws j)->s''.ws i=[]->∀j:Nat,j<L->(∃p∈l,p.1=.int .i64 j)->(Gg (.int .i64 j)&&!(Lit.int .i64 j).sameKey (.int .i64 i))=false->s''.ws j=[]):=hid (fun s'' h1 h2 j hj hp hl=>by
    by_cases hji:j=i
    ·subst hji;exact h2
    ·have h3:(Lit.int .i64 j).sameKey (.int .i64 i)=false:=by simp[Lit.sameKey];omega
     rw[h3]at hl;have h4:=Gl j hj hp (by simpa using hl);rcases h1 j with h5|h5
     ·exact h5
     ·rw[h5];exact h4)
   have e6:(i:Int)<(L:Int):=oM;have e7:(0:Int)<=(i:Int):=oM;clear hat hp G8 G6 hwx hwc hlx hg1 hs1 Gi hC hd Gd hrg1 Gc hlt G2 G7 H Gm Gl;by_cases hm:s'.m i=0
   ·have e1:decide ((s'.dn i:Int)<(s'.dn i:Int)+(s'.m i:Int))=false:=dF
    go_wp2;refine⟨?_,Gj.out⟩;repeat apply Exists.intro
    refine⟨?_,rfl⟩;exact⟨_,cnt1,⟨Gn,Gk.out,⟨s',Gh,Gt,Ga.out,Gy.out,G0.out,Gz.out s' (fun _ => .inr rfl) (Ga.out.none hi hm)⟩,Gw.out⟩⟩
   ·have e1:decide ((s'.dn i:Int)<(s'.dn i:Int)+(s'.m i:Int))=true:=dT
    go_wp2_with fail
    rw[show((s'.dn i:Int)+(s'.m i:Int)-(s'.dn i:Int))=(s'.m i:Int) by omega];refine(GE.out oM).mono ?_;rintro e w2⟨rfl,⟨Gu,GK,G3⟩,hC2⟩;have Gr:w2.ranges Tryz.prog 3 (plainElem Tryz.prog 32) (a.nt 0) r F (.map l) _ cnt1:=x8e Gk.out hC2 (fun hk=>by
     rcases hk with hk|hk
     ·exact z0p Gk.out.owns Ga.out.perB hk
     ·exact z0p Gk.out.owns Ga.out.linB hk) (fun hk=>by
     rcases hk with hk|hk
     ·have:=Gq.out _ Ga.out.sp;omega
     ·have:=Gq.out _ Ga.out.sl;omega)
    have GB:Hid (w2.rangeLeft (a.nt 0) r<wr.rangeLeft (a.nt 0) r):=show _<_ by have:=Gj.out;rw[Gk.out.left_eq]at this;rw[Gr.left_eq];exact this
    have GA:Hid (x9a a L T w w2 S cur s (IntKind.u64.wrap (exe+1)) cs F r l _ cnt1):=⟨Gn,Gr,⟨z1r s' i,Gu,GK,G3,fun k=>(x7c s' i k).trans (Gy.out k),fun k=>(y8s s' i k).elim .inl (fun h=>(G0.out k).imp (h.trans) (h.trans)),Gz.out _ (y8s s' i) (by simp[z1r])⟩,Gw.out.trans (S':=fun k=>k=a.pb\/k=a.lb) hC2 (fun k hk=>by
     rcases hk with rfl|rfl
     ·exact .inl Ga.out.sp
     ·exact .inl Ga.out.sl)⟩
    clear G3 hC2 Gr;go_wp2;refine⟨?_,GB.out⟩;repeat apply Exists.intro
    refine⟨?_,rfl⟩;exact⟨_,cnt1,GA⟩
end
section
open Go.RowKit
def RowU(cs:Array Value)(xs:List Nat):Prop:=xs.length<=cs.size/\∀i (h:i<xs.length),cs[i]?=some (.int .u64 ((xs[i]:Nat):Int))
theorem RowU.set{cs xs}(h:RowU cs xs)(j x:Nat)(hj:j<xs.length):RowU (cs.setIfInBounds j x) (xs.set j x):=by
 refine⟨by simpa using h.1,fun i hi=>?_⟩;rw[List.length_set]at hi;rw[z5y i (by have:=h.1;omega),List.getElem_set];by_cases hij:i=j
 ·rw[if_pos hij,if_pos hij.symm]
 ·rw[if_neg hij,if_neg (fun e=>hij e.symm)];exact h.2 i hi
def z0t(w wr:World)(g:Nat)(xs:List Nat)(sz:Nat):Prop:=∃cs ys,Blk wr g 32 cs/\cs.size=sz/\RowU cs ys/\ys.Perm xs/\Chg (fun k=>k=g) w wr
def z3f(w:World)(g:Nat)(xs:List Nat)(sz:Nat)(e:Ending)(w':World):Prop:=e=.returned (.tuple #[])/\z0t w w' g xs sz
inductive Ins where
 |st (off v:Nat)
 |fl (off:Nat)
 |fe
def Ins.cells:Ins->List Value
 | .st o v=>[.int .u8 1,o,v]
 | .fl o=>[.int .u8 2,o,[()]]
 | .fe=>[.int .u8 3,[()],[()]]
theorem Ins.cells_len(i:Ins):i.cells.length=3:=by cases i<;>rfl
theorem Ins.cells_one(i:Ins):∀u∈i.cells,u.oneCell'=true:=by
 intro u hu;cases i<;>simp only[Ins.cells,List.mem_cons,List.not_mem_nil,or_false]at hu<;>rcases hu with rfl|rfl|rfl<;>rfl
def z0h(p:List Ins):List Value:=p.flatMap Ins.cells
theorem z0o(p:List Ins):(z0h p).length=p.length*3:=by
 induction p with
 |nil=>rfl
 |cons i p ih=>simp only[z0h,List.flatMap_cons,List.length_append,Ins.cells_len,List.length_cons]at*;omega
theorem z6f(p:List Ins):∀u∈z0h p,u.oneCell'=true:=by
 intro u hu;simp only[z0h,List.mem_flatMap]at hu;obtain⟨i,_,hi⟩:=hu;exact Ins.cells_one i u hi
theorem z4k(p q:List Ins):z0h (p++q)=z0h p++z0h q:=by simp[z0h]
theorem z5j:∀(p:List Ins)(k j:Nat)(hk:k<p.length),j<3->(z0h p)[k*3+j]?=(p[k]).cells[j]?
 |i::p,0,j,_,hj=>by
  simp only[z0h,List.flatMap_cons];rw[List.getElem?_append_left (by rw[Ins.cells_len];omega)];simp
 |i::p,k+1,j,h,hj=>by
  have ih:=z5j p k j (by simpa using h) hj;simp only[z0h,List.flatMap_cons]at*;rw[List.getElem?_append_right (by rw[Ins.cells_len];omega),Ins.cells_len,show(k+1)*3+j-3=k*3+j by omega,ih];simp
def runI(cur:Nat->Nat):Ins->Nat->Nat
 | .st o v=>upd cur (o/8) v
 |_=>cur
def runP(cur:Nat->Nat)(p:List Ins):Nat->Nat:=p.foldl runI cur
theorem z3v(cur:Nat->Nat)(p q:List Ins):runP cur (p++q)=runP (runP cur p) q:=by simp[runP]
theorem w2t(cur:Nat->Nat)(p:List Ins) i:runP cur (p++[i])=runI (runP cur p) i:=by simp[runP]
def w6g(b:Bool):Ins->Bool
 | .st _ _=>b
 | .fl _=>true
 | .fe=>false
def z7u(b:Bool)(p:List Ins):Bool:=p.foldl w6g b
theorem w2d b (p q:List Ins):z7u b (p++q)=z7u (z7u b p) q:=by simp[z7u]
def dirI(d:(Nat->Prop)×(Nat->Prop)):Ins->(Nat->Prop)×(Nat->Prop)
 | .st o _=>(fun k=>d.1 k\/k=o/8,fun _=>False)
 | .fl o=>(d.1,fun i=>d.2 i\/i=o/64)
 | .fe=>(fun k=>d.1 k/\¬d.2 (k/8),fun _=>False)
def dirP(d:(Nat->Prop)×(Nat->Prop))(p:List Ins):(Nat->Prop)×(Nat->Prop):=p.foldl dirI d
theorem y0u(d:(Nat->Prop)×(Nat->Prop))(p q:List Ins):dirP d (p++q)=dirP (dirP d p) q:=by simp[dirP]
theorem y8t{d e}(h1:∀k,d.1 k->e.1 k)(h2:∀i,e.2 i->d.2 i) i:(∀k,(dirI d i).1 k->(dirI e i).1 k)/\∀j,(dirI e i).2 j->(dirI d i).2 j:=by
 cases i with
 |st o v=>exact⟨fun k hk=>hk.imp (h1 k) id,fun _ h=>h⟩
 |fl o=>exact⟨h1,fun j hj=>hj.imp (h2 j) id⟩
 |fe=>exact⟨fun k hk=>⟨h1 k hk.1,fun h=>hk.2 (h2 _ h)⟩,fun _ h=>h⟩
theorem y8v:∀(p:List Ins){d e:(Nat->Prop)×(Nat->Prop)},(∀k,d.1 k->e.1 k)->(∀i,e.2 i->d.2 i)->∀k,(dirP d p).1 k->(dirP e p).1 k
 |[],_,_,h1,_=>h1
 |i::p,_,_,h1,h2=>y8v p (y8t h1 h2 i).1 (y8t h1 h2 i).2
def x5w(p:List Ins):Prop:=∀(D:Nat->Prop) k,(dirP (D,fun _=>False) p).1 k->D k
theorem x5w.app{p q}(hp:x5w p)(hq:x5w q):x5w (p++q):=fun D k h=>by
 rw[y0u]at h;exact hp D k (hq _ k (y8v q (d:=dirP (D,fun _=>False) p) (e:=((dirP (D,fun _=>False) p).1,fun _=>False)) (fun _ h=>h) (fun _ h=>h.elim) k h))
def w5o(L:Nat)(b:Bool):Ins->Prop
 | .st o v=>b=false/\o%8=0/\o<64*L/\v<18446744073709551616
 | .fl o=>o<64*L
 | .fe=>True
def y2n(L:Nat):Bool->List Ins->Prop
 |b,[]=>b=false
 |b,i::p=>w5o L b i/\y2n L (w6g b i) p
theorem x4v{L}:∀{p:List Ins}{b:Bool}(_:y2n L b p)(k:Nat)(hk:k<p.length),w5o L (z7u b (p.take k)) p[k]
 |i::p,b,h,0,_=>by simpa[z7u] using h.1
 |i::p,b,h,k+1,hk=>by
  have:=x4v h.2 k (by simpa using hk);simpa[z7u] using this
theorem y9e{L}:∀{p:List Ins}{b:Bool}(_:y2n L b p),z7u b p=false
 |[],b,h=>h
 |i::p,b,h=>by have:=y9e h.2;simpa[z7u] using this
theorem y9d{L}:∀{p:List Ins}{b:Bool}{q:List Ins},y2n L b p->y2n L false q->y2n L b (p++q)
 |[],b,q,h,h'=>by have:b=false:=h;subst this;exact h'
 |i::p,b,q,h,h'=>⟨h.1,y9d h.2 h'⟩
def y9b(L:Nat)(b:Bool)(p:List Ins):Prop:=y2n L b p/\x5w p
theorem w5p{L p b}(h:y9b L b p) k (hk:k<p.length):w5o L (z7u b (p.take k)) p[k]:=x4v h.1 k hk
theorem w1a{L p b}(h:y9b L b p):z7u b p=false:=y9e h.1
theorem z4x{L p b q}(h:y9b L b p)(h':y9b L false q):y9b L b (p++q):=⟨y9d h.1 h'.1,h.2.app h'.2⟩
section
variable{a:DA}{L T:Nat}{w:World}{S:Fp}{cur:Nat->Nat}{D N:Nat->Prop}{F:Nat}
theorem DevM.more(h:DevM a L T w S cur D N F){T'}(hT:T<=T')(hT':T'<=1000000000):DevM a L T' w S cur D N F:=by
 obtain⟨s,Ga,Gb,cs,ls,hd,hn⟩:=h;exact⟨s,Ga,Gb,cs,ls,{ hd with few:=fun i hi=>Nat.le_trans (hd.few i hi) hT,hT:=hT' },hn⟩
theorem DevM.lt(h:DevM a L T w S cur D N F):∀k,S k->k<w:=by
 obtain⟨s,Ga,Gb,cs,ls,hd,hn⟩:=h;exact hd.lt
theorem DevM.chg{Z w'}(h:DevM a L T w S cur D N F)(hc:Chg Z w w')(hd:∀k,S k->¬Z k):DevM a L T w' S cur D N F:=by
 obtain⟨s,Gb,Gc,cs,ls,Ga,⟨l,hm,hn⟩,hcl⟩:=h;exact⟨s,Gb,Gc,cs,ls,Ga.chg hc hd,⟨l,hc.map hm (hd _ Ga.sn),hn⟩,hcl⟩
theorem DevM.below{w'}(h:DevM a L T w S cur D N F)(hb:Blw w w'):DevM a L T w' S cur D N F:=h.chg (Z:=Fp.no) (Chg.of_below hb) (fun _ _ h=>h)
theorem Dev.more(h:Dev a L T w S cur F){T'}(hT:T<=T')(hT':T'<=1000000000):Dev a L T' w S cur F:=DevM.more h hT hT'
theorem Dev.lt(h:Dev a L T w S cur F):∀k,S k->k<w:=DevM.lt h
theorem Dev.chg{Z w'}(h:Dev a L T w S cur F)(hc:Chg Z w w')(hd:∀k,S k->¬Z k):Dev a L T w' S cur F:=DevM.chg h hc hd
theorem Dev.below{w'}(h:Dev a L T w S cur F)(hb:Blw w w'):Dev a L T w' S cur F:=DevM.below h hb
theorem y5d(h:DevM a L T w S cur D N 0)(off v:Nat)(h8:off%8=0)(hlt:off<64*L)(hT:T<1000000000):
  () 44 #[(a.th 0,()),off,v] w (z5e a L (T+1) w S (upd cur (off/8) v) (fun k=>D k\/k=off/8) (fun _=>False) 0 (.tuple #[])):=by
 obtain⟨s,Gb,Gc,cs,ls,hd,hn,Ga⟩:=h;exact w3d hd hn Ga off v h8 hlt hT
theorem x7n(h:DevM a L T w S cur D N F) off (hlt:off<64*L) (hF:F<1000000000) :
  () 374 #[(a.th 0,0),off] w (z5e a L T w S cur D (fun i=>N i\/i=off/64) (F+1) (.tuple #[])):=by
 obtain⟨s,Gb,Gc,cs,ls,hd,hn,Ga⟩:=h;exact w0u hd hn Ga off hlt hF
theorem x7j(h:DevM a L T w S cur D N F):
  () 373 #[(a.th 0,0)] w (z5e a L T w S cur (fun k=>D k/\¬N (k/8)) (fun _=>False) 0 (.tuple #[])):=by
 obtain⟨s,Gb,Gc,cs,ls,hd,hn,Ga⟩:=h;exact w0p hd hn Ga
end
theorem x0j{a L T w S cur}(h:Dev a L T w S cur 0)(off v:Nat)(hdi:a.dirty (off/8))(h8:off%8=0)(hlt:off<64*L)(hT:T<1000000000):
  () 44 #[(a.th 0,()),off,v] w (z0x a L (T+1) w S (upd cur (off/8) v) 0 (.tuple #[])):=by
 refine(y5d h off v h8 hlt hT).mono ?_;rintro e w'⟨he,S',hd,hc,hg⟩;exact⟨he,S',hd.mono (fun k hk=>hk.elim id (fun e=>by rw[e];exact hdi)) (fun _ h=>h),hc,hg⟩
theorem w6b{a L T w S cur F}(h:Dev a L T w S cur F){j}(hj:j<8) off (h8:off%8=0) (hlt:off<64*L) :
  () 39 #[(a.th j,0),off] w fun e w'=>e=.returned (cur (off/8))/\w=w':=by
 obtain⟨s,Ga,Gb,cs,ls,hd,hn⟩:=h;exact x5f hd hj off h8 hlt
def memV(a:DA):Value := .iface 57 (a.th 0,0)
theorem w1y p w : (method 585 57 (.pointer p) "Store").run Tryz.prog w=.ok (44,.pointer p) w := by kernel_rfl
theorem w1x p w : (method 585 57 (.pointer p) "Flush").run Tryz.prog w=.ok (374,.pointer p) w := by kernel_rfl
theorem w1w p w : (method 585 57 (.pointer p) "Fence").run Tryz.prog w=.ok (373,.pointer p) w := by kernel_rfl
theorem z3u p w : (method 585 57 (.pointer p) "Load").run Tryz.prog w=.ok (39,.pointer p) w := by kernel_rfl
theorem z1x p w : (method 585 57 (.pointer p) "Err").run Tryz.prog w=.ok (76,.pointer p) w := by kernel_rfl
theorem z6w p w : (method 585 57 (.pointer p) "Size").run Tryz.prog w=.ok (264,.pointer p) w := by kernel_rfl
theorem w9x{a L T w S cur D N}(h:DevM a L T w S cur D N 0)(off v:Nat)(h8:off%8=0)(hlt:off<64*L)(hT:T<1000000000):
  () 130 #[.agg #[.int .u8 1,off,v],memV a] w (z5e a L (T+1) w S (upd cur (off/8) v) (fun k=>D k\/k=off/8) (fun _=>False) 0 (.tuple #[])):=by
 have HW:=hid (fun o=>h.below ((Below.refl _ w).alloc (nL _) o));clear h;have hm:=w1y (some (a.th 0,()));unfold memV;go_enter Tryz.func130,Tryz.ntmps130
 go_wp2_with fail
 refine(y5d (HW.out _) off v h8 hlt hT).mono ?_;rintro e w1⟨rfl,S1,Gb,Ga,Gc⟩;have HD:=hid Gb;have HC:Hid (Chg S w w1):=((Chg.refl S w).alloc _).trans Ga (Grew.refl _ _);have HG:Hid (Grew S S1 w):=fun k hk=>(Gc k hk).imp id (fun h=>by simp at h;omega)
 clear Gb Ga Gc;go_wp2;go_end0;exact⟨rfl,S1,HD.out,HC.out,HG.out⟩
theorem w9w{a L T w S cur D N F}(h:DevM a L T w S cur D N F) off (hlt:off<64*L) (hF:F<1000000000) :
  () 130 #[.agg #[.int .u8 2,off,[()]],memV a] w (z5e a L T w S cur D (fun i=>N i\/i=off/64) (F+1) (.tuple #[])):=by
 have HW:=hid (fun o=>h.below ((Below.refl _ w).alloc (nL _) o));clear h;have hm:=w1x (some (a.th 0,0));unfold memV;go_enter Tryz.func130,Tryz.ntmps130
 go_wp2_with fail
 refine(x7n (HW.out _) off hlt hF).mono ?_;rintro e w1⟨rfl,S1,Gb,Ga,Gc⟩;have HD:=hid Gb;have HC:Hid (Chg S w w1):=((Chg.refl S w).alloc _).trans Ga (Grew.refl _ _);have HG:Hid (Grew S S1 w):=fun k hk=>(Gc k hk).imp id (fun h=>by simp at h;omega)
 clear Gb Ga Gc;go_wp2;go_end0;exact⟨rfl,S1,HD.out,HC.out,HG.out⟩
theorem w9v{a L T w S cur D N F}(h:DevM a L T w S cur D N F):
  () 130 #[.agg #[.int .u8 3,[()],[()]],memV a] w (z5e a L T w S cur (fun k=>D k/\¬N (k/8)) (fun _=>False) 0 (.tuple #[])):=by
 have HW:=hid (fun o=>h.below ((Below.refl _ w).alloc (nL _) o));clear h;have hm:=w1w (some (a.th 0,0));unfold memV;go_enter Tryz.func130,Tryz.ntmps130
 go_wp2_with fail
 refine(x7j (HW.out _)).mono ?_;rintro e w1⟨rfl,S1,Gb,Ga,Gc⟩;have HD:=hid Gb;have HC:Hid (Chg S w w1):=((Chg.refl S w).alloc _).trans Ga (Grew.refl _ _);have HG:Hid (Grew S S1 w):=fun k hk=>(Gc k hk).imp id (fun h=>by simp at h;omega)
 clear Gb Ga Gc;go_wp2;go_end0;exact⟨rfl,S1,HD.out,HC.out,HG.out⟩
end
end Go.Proofs.YtmhbokcccjmfgaaGreatDoor
