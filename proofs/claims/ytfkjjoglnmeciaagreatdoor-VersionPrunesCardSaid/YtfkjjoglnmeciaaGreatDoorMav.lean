/- part 22 -/
import Derived.Test.YtfkjjoglnmeciaaGreatDoorMao
set_option maxRecDepth 100000
set_option maxHeartbeats 16000000
namespace Go.Proofs.YtfkjjoglnmeciaaGreatDoor
open Go.Lib (hid)
section
open Go.RowKit
theorem x7n (x:Nat):∀ j,lev (wb x j)=x % 256 ^ j
 | 0=>by simp [wb,lev,Nat.mod_one]
 | j+1=>by rw [x9o,y4o,x7n x j,show (wb x j).length=j by simp [wb],Nat.pow_succ,Nat.mod_mul]
theorem w2f {xs:List Nat} (hx:∀ x∈xs,x < 18446744073709551616):z2a (unpB xs (8 * xs.length))=xs:=by
 apply List.ext_getElem
 ·simp [z2a,z3c];omega
 ·intro j h1 h2
  have e:((unpB xs (8 * xs.length)).drop (8 * j)).take 8=wb xs[j] 8:=by
   apply List.ext_getElem
   ·simp [z3c,wb];omega
   ·intro i h3 h4
    have hi:i < 8:=by simpa [wb] using h4
    rw [List.getElem_take,List.getElem_drop];simp only [unpB,wb,List.getElem_map,List.getElem_range];rw [show (8 * j+i) / 8=j by omega,show (8 * j+i) % 8=i by omega,List.getD_eq_getElem?_getD,List.getElem?_eq_getElem h2];rfl
  simp only [z2a,List.getElem_map,List.getElem_range];rw [e,x7n,Nat.mod_eq_of_lt (Nat.lt_of_lt_of_le (hx _ (List.getElem_mem h2)) (by decide))]
def w3q (w:World) (L:Nat) (D:Nat->Prop) (cur:Nat->Nat) (e:Ending) (w':World):Prop:=y2f w L D (fun d => .tuple #[.pointer (some ⟨d,0,none⟩),.int .i64 0]) cur e w'
theorem w1f (D:Nat->Prop) (g L:Nat) (p:List Nat) (w:World) (h:z0c w w.heap.size 1 (some ⟨g,0,none⟩) (64 * L) (u8s p)) (hp:∀ b∈p,b < 256) (h0:0 < L) (hL:L<=4096) :
  Calls Tryz.prog 93 #[.slice (some ⟨g,0,none⟩) (64 * L) (64 * L)] w (w3q w L D (fun k=>(z2a p).getD k 0)):=by
 obtain ⟨q,hq⟩:∃ q,8 * L=q:=⟨_,rfl⟩
 obtain ⟨n,hn⟩:∃ n,64 * L=n:=⟨_,rfl⟩
 have Gd:p.length=64 * L:=by have:=h.1;simp [u8s] at this;omega
 have Ge:(z2a p).length=8 * L:=by simp [z2a,Gd];omega
 have HO:Hid (∀ wx cs,Blk wx w.heap.size 32 cs->cs.size=8 * L->(∀ j,j < 8 * L->cs[j]?=some (.int .u64 (pkW p (64 * L) j:Int)))->Blw w wx->Calls Tryz.prog 168 #[.slice (some ⟨w.heap.size,0,none⟩) (8 * L) (8 * L)] wx fun e w'=>∃ d:Nat,e=.returned (.pointer (some ⟨d,0,none⟩))/\w3q w L D (fun k=>(z2a p).getD k 0) (.returned (.tuple #[.pointer (some ⟨d,0,none⟩),.int .i64 0])) w'):=hid (fun wx cs hB Ga Gb hb=>by
  have Gi:RowU cs (z2a p):=⟨by rw [Ge,Ga];exact nL _,fun i hi=>by
   rw [Gb i oM,<- Gd,x8l];simp only [z2a,List.getElem_map,List.getElem_range]⟩
  have hr:z0c wx wx.heap.size 1 (some ⟨w.heap.size,0,none⟩) (8 * L) (z0a (z2a p)):=z3j hB (by simp [z0a,Ge]) (fun j u hu=>by
   have hj:j < (z2a p).length:=by
    have h1:=(List.getElem?_eq_some_iff.1 hu).1;simpa [z0a] using h1
   rw [Gi.2 j hj,<- hu];simp [z0a,hj])
  refine (w4b w.heap.size L (z2a p) hL h0 wx hr).mono ?_;rintro e w1 ⟨d,cb,cc,lb,Gk,ls,th,nt,rfl,h1,h2,h3,h4,h5,h6,h7,h8⟩;exact ⟨d,rfl,w3y (w0:=w) D (fun d => .tuple #[.pointer (some ⟨d,0,none⟩),.int .i64 0]) hL (nL _) hB Ga Gi Ge hb h1 h2 h3 h4 h5 h6 h7 h8⟩)
 have HR:=hid h;have HP:=hid hp;have HL:=hid Gd;have Gn:=w1z q oM;have Gr:(n:Int) % 64=0:=oM;have Gs:(n:Int) / 64=(L:Int):=oM;have Gt:(n:Int) / 8=(q:Int):=oM;have Gu:((n:Int) == 0)=false:=by rw [beq_eq_false_iff_ne];omega
 have Gx:(L:Int)<=4096:=oM;have Gp:n<=8 * q/\8 * q<=n:=oM;rw [hn] at HL HR HO;rw [hq] at HO;rw [hn];have Gq:q<=40000:=oM;clear h hp Gd Ge hq hn;go_enter Tryz.func93,Tryz.ntmps93
 go_wp2_with fail
 go_loopw [26] (fun i wr=>∃ k:Nat,k<=n/\i=.int .i64 k/\Hid (∃ cs,Blk wr w.heap.size 32 cs/\cs.size=q/\∀ j,j < q->cs[j]?=some (.int .u64 (pkW p k j:Int)))/\Hid (Blw w wr)) (fun i _=>n - (Go.RowKit.intOf i).toNat)
 case atStart =>
  refine ⟨0,Nat.zero_le _,rfl,hid ⟨_,Blk.new w _ _,y2y q,fun j hj=>?_⟩,hid ((Below.refl _ _).alloc (nL _) _)⟩;rw [x1o q j hj,x1y];rfl
 case round =>
  obtain ⟨k,hk,rfl,HC,HB⟩:=hrel;by_cases hlt:k < n
  ·obtain ⟨hl,b,Gy,hA,Gj,f0⟩:=x5z (HR.out.below HB.out) hlt
   injection hA with hA
   injection hA with hA1 hA2 _
   subst hA1;subst hA2;rw [Nat.zero_add] at f0;obtain ⟨cs,hB,Ga,Gb⟩:=HC.out;have Gh:k / 8 < q:=oM;have c0:=Gb (k / 8) Gh;obtain ⟨l,e1,e2,e3,e4⟩:=x1x hl HP.out;have Gc:p[k] < 256:=HP.out _ (List.getElem_mem hl);have HN:Hid (∃ cs',Blk (wr.setCell ⟨w.heap.size,k / 8,none⟩ (.int .u64 (pkW p (k+1) (k / 8):Int))) w.heap.size 32 cs'/\cs'.size=q/\∀ j,j < q->cs'[j]?=some (.int .u64 (pkW p (k+1) j:Int))):=hid ⟨_,hB.set_ (k / 8) _,by simp [Ga],fun j hj=>by
    rw [Array.getElem?_setIfInBounds];by_cases e:k / 8=j
    ·subst e
     simp [Ga,Gh]
    ·rw [if_neg e,Gb j hj,y7t hl e]⟩
   have Gf:Hid (Blw w (wr.setCell ⟨w.heap.size,k / 8,none⟩ (.int .u64 (pkW p (k+1) (k / 8):Int)))):=hid (HB.out.setCell (nL _) _);rw [e2] at HN Gf;rw [e1] at c0;have f1:wr.cell? ⟨w.heap.size,k / 8,none⟩=some (.int .u64 (lev l:Int)):=by rw [hB.cell];exact c0
   have z1:wr.frozen? ⟨w.heap.size,k / 8,none⟩=false:=hB.frozen _;have hx:=w4c e4 oM Gc;have HX:Hid (bits .or .u64 (lev l:Int) (IntKind.u64.wrap (((p[k]:Nat):Int) * 2 ^ (k % 8 * 8)))=(lev (l++[p[k]]):Int)):=hid (by
    have h1:(p[k] * 2 ^ (8 * l.length):Nat)<=255 * 2 ^ 56:=Nat.mul_le_mul oM (Nat.pow_le_pow_right oM oM);have h2:(255:Nat) * 2 ^ 56=18374686479671623680:=by decide
    rw [<- hx,e3,Nat.mul_comm 8 (k % 8)];rw [e3,Nat.mul_comm 8 (k % 8)] at h1;have h3:(((p[k]:Nat):Int) * 2 ^ (k % 8 * 8))=((p[k] * 2 ^ (k % 8 * 8):Nat):Int):=by push_cast;rfl
    rw [h3,wraps_u64 _ oM oM])
   clear hx;clear e1 e2 e4 hB Gb Ga c0 HC Gj e3;generalize p[k]=bt at *;have Gv:(0:Int)<=(k:Int):=oM;have Gw:(k:Int) < (n:Int):=oM;go_wp2;go_roundw
   case rel =>
    first
     | (
       refine ⟨k+1,oM,by go_num,?_,?_⟩
       ·rw [HX.out];exact HN
       ·rw [HX.out];exact Gf)
     | (
       repeat apply Exists.intro
       refine ⟨?_,rfl⟩;refine ⟨k+1,oM,by go_num,?_,?_⟩
       ·rw [HX.out];exact HN
       ·rw [HX.out];exact Gf)
   case measure=>simp [Go.RowKit.intOf];omega
  ·have Gg:k=n:=oM
   obtain ⟨cs,hB,Ga,Gb⟩:=HC.out;have HF:=hid (HO.out wr cs hB Ga (fun j hj=>by rw [<- Gg];exact Gb j hj) HB.out);have Gl:decide ((k:Int) < (n:Int))=false:=dF;have Gm:decide (k < n)=false:=decide_eq_false hlt;clear Gg hlt hk HC HO hB Gb Ga;go_wp2_with (go_at_call 168;refine HF.out.mono ?_;rintro e w1 ⟨d,rfl,h2⟩;have HZ:=hid h2;clear h2)
   go_ret2;exact HZ.out
theorem y9e {a:DA} {L:Nat} {w:World} {cur:Nat->Nat} (h:y8m a L cur w) (hb:∀ i,cur i < 18446744073709551616) (h0:0 < L) (A:Option Addr) (n c:Nat) :
  Calls Tryz.prog 94 #[.pointer (some ⟨a.d,0,none⟩),.slice A n c] w (x5o w (unpB ((List.range (8 * L)).map cur) (64 * L))):=by
 obtain ⟨xs,Gh⟩:∃ xs,(List.range (8 * L)).map cur=xs:=⟨_,rfl⟩
 have Ge:xs.length=8 * L:=by rw [<- Gh];simp
 have Gg:∀ x∈xs,x < 18446744073709551616:=fun x hx=>by
  rw [<- Gh] at hx;obtain ⟨i,_,rfl⟩:=List.mem_map.1 hx;exact hb i
 have h5:=h.hL;have hd:=h.dev;have Ga:=h.per;rw [Gh] at Ga ⊢;have Go:=hid (fun W (hW:Blw w W)=>y9a (h.below hW));obtain ⟨Gp,h1⟩:=hd;have f0:w.cell? ⟨a.d,0,none⟩=some (.slice (some ⟨a.pb,0,none⟩) (8 * L) (8 * L)):=h1.cell 0;have Gk:=y5i Ga;rw [Ge] at Gk;have Gm:=hid (y2m ⟨a.pb,0,none⟩ (8 * L) (8 * L) xs w Gk oM);have Gl:=hid (fun (A:Option Addr) (c:Nat) (W:World) (hr:z0c W W.heap.size 1 A (8 * L) (z0a xs))=>y8t A (8 * L) c (64 * L) xs W hr Gg oM oM);generalize unpB xs (64 * L)=bs at *;generalize 8 * L=q at *;clear h hb Ga h1 Gk Ge Gg Gh h0 h5;by_cases hn:0 < n
 ·have d1:decide ((0:Int) < (n:Int))=true:=dT
  have d2:(0:Int) < (n:Int):=oM;go_enter Tryz.func94,Tryz.ntmps94
  go_wp2_with (first
   | (go_at_call 190;refine Gm.out.mono ?_;rintro e w1 ⟨A1,m1,c1,rfl,rfl,Gf,Gb⟩;have Gj:=hid (z0c.of_own Gf);have Gc:=hid Gb;have Gn:=hid (Go.out _ Gb);clear Gf Gb)
   | (go_at_call 191;refine Gn.out.mono ?_;rintro e w2 ⟨rfl,rfl⟩)
   | fail)
  refine wp_loop_rounds 1 ?_;rw [rounds_succ];have HF:=hid (Gl.out _ c1 _ Gj.out);go_wp2_with (first
   | (go_at_call 193;refine HF.out.mono ?_;rintro e w3 ⟨g,rfl,h3,Gd⟩;have H3:=hid h3;have Gi:=hid (Gc.out.trans (Gd.mono Gc.out.size));clear h3 Gd)
   | fail)
  go_ret;exact ⟨g,rfl,H3.out,Gi.out⟩
 ·have d1:decide ((0:Int) < (n:Int))=false:=dF
  have d2:¬ (0:Int) < (n:Int):=oM;go_enter Tryz.func94,Tryz.ntmps94
  go_wp2_with (first
   | (go_at_call 190;refine Gm.out.mono ?_;rintro e w1 ⟨A1,m1,c1,rfl,rfl,Gf,Gb⟩;have Gj:=hid (z0c.of_own Gf);have Gc:=hid Gb;have HF:=hid (Gl.out _ c1 _ Gj.out);clear Gf Gb)
   | (go_at_call 193;refine HF.out.mono ?_;rintro e w3 ⟨g,rfl,h3,Gd⟩;have H3:=hid h3;have Gi:=hid (Gc.out.trans (Gd.mono Gc.out.size));clear h3 Gd)
   | fail)
  go_ret;exact ⟨g,rfl,H3.out,Gi.out⟩
theorem Dev.congr {a:DA} {L T:Nat} {w:World} {S:Fp} {cur cur':Nat->Nat} {F:Nat} (h:Dev a L T w S cur F) (e:∀ k,k < 8 * L->cur k=cur' k):Dev a L T w S cur' F:=by
 obtain ⟨s,Ga,Gc,cs,ls,hc,hn,Gb⟩:=h;exact ⟨s,Ga,Gc,cs,ls,{ hc with curI:=fun i hi=>by rw [<- e i hi];exact hc.curI i hi,link:=fun k hk=>by rw [<- e k hk];exact hc.link k hk },hn,Gb⟩
theorem y6g (D:Nat->Prop) {a:DA} {L:Nat} {w:World} {cur:Nat->Nat} (h:y8m a L cur w) (hb:∀ i,cur i < 18446744073709551616) (h0:0 < L) (A:Option Addr) (n c:Nat) :
  Calls Tryz.prog 16 #[.pointer (some ⟨a.d,0,none⟩),.slice A n c] w (y2f w L D (fun d => .pointer (some ⟨d,0,none⟩)) cur):=by
 have hL:=h.hL;have HI:=hid (y9e h hb h0 A n c);have Gc:(unpB ((List.range (8 * L)).map cur) (64 * L)).length=64 * L:=z3c _ _;have Ga:∀ b∈unpB ((List.range (8 * L)).map cur) (64 * L),b < 256:=fun b hb=>by
  unfold unpB at hb;obtain ⟨i,_,rfl⟩:=List.mem_map.1 hb;exact Nat.mod_lt _ oM
 have Gg:Hid (∀ (g:Nat) (W:World),Blw w W->z0c W W.heap.size 1 (some ⟨g,0,none⟩) (64 * L) (u8s (unpB ((List.range (8 * L)).map cur) (64 * L)))->Calls Tryz.prog 93 #[.slice (some ⟨g,0,none⟩) (64 * L) (64 * L)] W fun e w'=>∃ d:Nat,e=.returned (.tuple #[.pointer (some ⟨d,0,none⟩),.int .i64 0])/\y2f w L D (fun d => .pointer (some ⟨d,0,none⟩)) cur (.returned (.pointer (some ⟨d,0,none⟩))) w'):=hid (fun g W hW hr=>by
  refine (w1f D g L _ W hr Ga h0 hL).mono ?_;rintro e w' ⟨a',S',rfl,hD,Gb,hS,Gh⟩;refine ⟨a'.d,rfl,a',S',rfl,hD,?_,fun k hk=>Nat.le_trans hW.size (hS k hk),hW.trans (Gh.mono hW.size)⟩;refine Gb.congr (fun k hk=>?_);have e1:=w2f (xs:=(List.range (8 * L)).map cur) (fun x hx=>by obtain ⟨i,_,rfl⟩:=List.mem_map.1 hx;exact hb i);have e2:8 * ((List.range (8 * L)).map cur).length=64 * L:=by simp;omega
  rw [e2] at e1;rw [e1];simp [List.getD_eq_getElem?_getD,hk])
 generalize unpB ((List.range (8 * L)).map cur) (64 * L)=bs at *;clear h hb Ga;go_enter Tryz.func16,Tryz.ntmps16
 go_wp2_with (first
  | (go_at_call 94;refine HI.out.mono ?_;rintro e w1 ⟨g,rfl,Gd,Ge⟩;rw [Gc] at Gd ⊢;have Gf:=hid (Gg.out g _ Ge Gd);clear Gd Ge)
  | (go_at_call 93;refine Gf.out.mono ?_;rintro e w2 ⟨d,rfl,h2⟩;have HZ:=hid h2;clear h2)
  | fail)
 go_ret;exact HZ.out
end
end Go.Proofs.YtfkjjoglnmeciaaGreatDoor
