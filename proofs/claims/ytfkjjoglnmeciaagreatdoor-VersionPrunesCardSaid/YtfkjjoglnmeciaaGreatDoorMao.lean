/- part 15 -/
import Derived.Test.YtfkjjoglnmeciaaGreatDoorMan
import Derived.Laws.CopyOwn
import Derived.Deep.Onto
import Derived.RangeFuncNested
import Derived.Deep.Fields
import Derived.Lib.BytesEntry
import Derived.Lib.SlBytesConst
set_option maxRecDepth 100000
set_option maxHeartbeats 16000000
namespace Go.Proofs.YtfkjjoglnmeciaaGreatDoor
open Go.Lib (hid)
section
open Go.RowKit Go.Maps
def z3m (s K off:Nat):Option Nat:=if off < 64 * s then none else if K<=(off - 64 * s) / 2048 then none else some ((off - 64 * s) / 2048)
theorem y9d {s K off k:Nat} (h:z3m s K off=some k):k < K/\64 * (s+32 * k)<=off/\off < 64 * (s+32 * k)+2048:=by
 unfold z3m at h;split at h
 ·cases h
 ·split at h
  ·cases h
  ·injection h with h
   omega
theorem x7h {s K off k:Nat} (hk:k < K) (h1:64 * (s+32 * k)<=off) (h2:off < 64 * (s+32 * k)+2048):z3m s K off=some k:=by
 unfold z3m;rw [if_neg oM,if_neg oM];congr 1
 omega
theorem z8b {s K cl k i:Nat} (hk:k < K) (hi:i < perC cl):z3m s K (blkO (s+32 * k) cl i)=some k:=by
 have h1:=off_lt hi;have h2:=z5k cl;exact x7h hk (by unfold blkO;omega) (by unfold blkO;omega)
def x5i (s K off:Nat) (ln:Nat) (b:Bool):Prop:=(z3m s K off=none/\ln=0/\b=false)\/∃ k,z3m s K off=some k/\k < K/\ln=s+32 * k/\b=true
section
theorem x1i {a:DA} {s n K gs mr mh h:Nat} {lk:Bool} {w:World} (hB:Blk w h 194 (z3g a s n gs mr mh lk)) (hs:s<=4096) (hn:n<=4096) (hK:n / 32=K) (off:Nat) (ho:off < 18446744073709551616) :
  Calls Tryz.prog 194 #[.pointer (some ⟨h,0,none⟩),.int .u64 off] w fun e w'=>∃ (ln:Nat) (b:Bool),e=.returned (.tuple #[.int .i64 ln,.bool b])/\x5i s K off ln b/\w=w':=by
 have f1:w.cell? ⟨h,1,none⟩=some (.int .i64 s):=hB.cell 1;have f2:w.cell? ⟨h,2,none⟩=some (.int .i64 n):=hB.cell 2;have u1:IntKind.u64.wrap (s:Int)=(s:Int):=by rw [IntKind.wrap_u64];omega
 have u2:IntKind.u64.wrap ((s:Int) * 64)=((64 * s:Nat):Int):=by rw [IntKind.wrap_u64];omega
 have d2:(n:Int).tdiv 32=(K:Int):=by rw [Int.tdiv_eq_ediv_of_nonneg oM];omega
 have d3:(n:Int) / 32=(K:Int):=oM;have u3:IntKind.u64.wrap (K:Int)=(K:Int):=by rw [IntKind.wrap_u64];omega
 have Gc:K<=128:=oM;clear hB hK;by_cases h1:off < 64 * s
 ·have HP:Hid (x5i s K off 0 false):=hid (.inl ⟨by unfold z3m;rw [if_pos h1],rfl,rfl⟩)
  have e1:decide ((off:Int) < ((64 * s:Nat):Int))=true:=dT;have Ga:decide (off < 64 * s)=true:=decide_eq_true h1;have hz:64 * s<=262144:=oM;clear h1;generalize 64 * s=z at *;go_enter Tryz.func194,Tryz.ntmps194
  go_wp2;go_ret2;exact ⟨0,false,rfl,HP.out,rfl⟩
 ·have e1:decide ((off:Int) < ((64 * s:Nat):Int))=false:=dF
  have Ga:decide (off < 64 * s)=false:=decide_eq_false h1;obtain ⟨y,hy⟩:∃ y,off - 64 * s=y:=⟨_,rfl⟩
  have u4:IntKind.u64.wrap ((off:Int) - ((64 * s:Nat):Int))=(y:Int):=by rw [IntKind.wrap_u64];omega
  have Gd:y < 18446744073709551616:=oM;have e4:(y:Int) / 2048=((y / 2048:Nat):Int):=oM;have hz:64 * s<=262144:=oM;by_cases h2:K<=y / 2048
  ·have HP:Hid (x5i s K off 0 false):=hid (.inl ⟨by unfold z3m;rw [if_neg h1,hy,if_pos h2],rfl,rfl⟩)
   have e2:decide ((K:Int)<=((y / 2048:Nat):Int))=true:=dT;have Gb:decide (K<=y / 2048)=true:=decide_eq_true h2;clear h1 h2 hy;generalize y / 2048=q at *;generalize 64 * s=z at *;go_enter Tryz.func194,Tryz.ntmps194
   go_wp2;go_ret2;exact ⟨0,false,rfl,HP.out,rfl⟩
  ·have HP:Hid (x5i s K off (s+32 * (y / 2048)) true):=hid (.inr ⟨y / 2048,by unfold z3m;rw [if_neg h1,hy,if_neg h2],oM,rfl,rfl⟩)
   have e2:decide ((K:Int)<=((y / 2048:Nat):Int))=false:=dF;have Gb:decide (K<=y / 2048)=false:=decide_eq_false h2;have hq:y / 2048<=128:=oM;have u5:IntKind.i64.wrap ((y / 2048:Nat):Int)=((y / 2048:Nat):Int):=IntWalk.i64_in _ oM;clear h1 h2 hy;generalize y / 2048=q at *;generalize 64 * s=z at *;go_enter Tryz.func194,Tryz.ntmps194
   go_wp2;go_ret2;exact ⟨s+32 * q,true,by rw [show ((s+32 * q:Nat):Int)=(s:Int)+(q:Int) * 32 by omega];rfl,HP.out,rfl⟩
theorem y7c {a:DA} {s n K N m:Nat} {x:HA} {cs:Nat->CS} {f:Nat->Option Nat} {w:World} (h:HS a s n K x cs f N m w) (p:Nat) :
  Calls Tryz.prog 235 #[.pointer (some ⟨x.h,0,none⟩),.int .u64 p] w fun e w'=>e=.returned (.bool (decide (f (pOff p)=some p)))/\Blw w w':=by
 have Gd:=hid (z4y p);have Ga:=(h.res.chg ((Chg.refl Fp.no w).drew) (fun h=>h)).look (x:=pOff p) (by unfold pOff;omega);have y4:w.cell? ⟨x.h,4,none⟩=some (.map (some x.mr)):=h.heap.cell 4;have Gc:Hid (Blw w w.drew):=hid (Below.refl _ _).drew;clear h;generalize pOff p=o at *;cases hf:f o with
 | none =>
  rw [hf] at Ga;have Gb:(Instr.lookup 190 (.map (some x.mr)) (.int .u64 o) true).run Tryz.prog w.drew=.ok (.tuple #[.int .u64 0,.bool false]) w.drew:=Ga;clear Ga hf;go_enter Tryz.func235,Tryz.ntmps235
  go_wp2_with fail
  go_region_with (go_at_call 135;refine (Gd.out _).mono ?_;rintro e w1 ⟨rfl,rfl⟩)
  all_goals
   go_wp2;go_ret;exact ⟨rfl,Gc.out⟩
 | some q =>
  rw [hf] at Ga;have Gb:(Instr.lookup 190 (.map (some x.mr)) (.int .u64 o) true).run Tryz.prog w.drew=.ok (.tuple #[.int .u64 q,.bool true]) w.drew:=Ga;have Ge:((q:Int) == (p:Int))=decide (q=p):=by
   by_cases e:q=p
   ·subst e;simp
   ·rw [decide_eq_false e,beq_eq_false_iff_ne];omega
  have HQ:Hid (decide (some q=some p)=decide (q=p)):=hid (by simp);clear Ga hf;generalize decide (q=p)=bq at *;go_enter Tryz.func235,Tryz.ntmps235
  go_wp2_with fail
  go_region_with (go_at_call 135;refine (Gd.out _).mono ?_;rintro e w1 ⟨rfl,rfl⟩)
  all_goals
   go_wp2;go_ret;exact ⟨by rw [HQ.out];rfl,Gc.out⟩
end
end
section
open Go.RowKit
theorem w5s (n:Nat):madeCells #[.int .u64 0] n=uA (List.replicate n 0):=by
 apply Array.ext';rw [toList_madeCells_one];unfold uA z0a;simp
theorem w5k (x:Nat) (h:x < 1000000):bits .or .u64 (x:Int) ((x:Int) * 4294967296)=((x * 4294967297:Nat):Int):=by
 rw [bits_join_low .u64 64 (by decide) wraps_u64 32 (x:Int) ((x:Int) * 4294967296) oM oM oM oM oM oM];omega
theorem z0c.take8 {w:World} {B n:Nat} {A:Option Addr} {xs:List Value} (h:z0c w B 1 A n xs) (k:Nat):z0c w B 1 A (min n k) (xs.take k):=by
 refine ⟨by have:=h.1;rw [List.length_take];omega,fun hn=>?_⟩;obtain ⟨ad,hA,hb,hc⟩:=h.2 oM;refine ⟨ad,hA,hb,fun j u hu=>hc j u ?_⟩;rw [List.getElem?_take] at hu;split at hu
 ·exact hu
 ·cases hu
theorem w6i (q nx v:Nat) (hq:3<=q):((List.replicate q 0).set 0 nx).set 1 v=nx :: v :: List.replicate (q - 2) 0:=by
 obtain ⟨m,rfl⟩:∃ m,q=m+2:=⟨q - 2,oM⟩
 rfl
theorem x4x (next v:Nat) (pk:List Nat) (m:Nat) (_h:pk.length<=m):(splice (z0a (next :: v :: List.replicate m 0)) 2 (z0a pk)).toArray=uA ([next,v]++pk++List.replicate (m - pk.length) 0):=by
 unfold splice uA z0a;simp only [List.map_cons,List.length_map,List.take_succ_cons,List.take_zero,List.map_append,List.cons_append,List.nil_append];congr 4
 rw [show 2+pk.length=pk.length+1+1 by omega,List.drop_succ_cons,List.drop_succ_cons];simp
def w7j (w:World) (ws:List (Nat × Nat)) (e:Ending) (w':World):Prop:=∃ A m c,e=.returned (.slice A m c)/\m=ws.length/\w'.ownsRow w.heap.size 114 2 (.slice A m c) m (z0d ws)/\Blw w w'
theorem w2p (o:Nat) (l:List Nat) {k:Nat} (hk:k < l.length):(pwW o l).take (k+1)=(pwW o l).take k++[(o+8 * k,l[k])]:=by
 have h:k < (pwW o l).length:=by rw [y1f];exact hk
 rw [List.take_succ_eq_append_getElem h];congr 2
 have h2:(pwW o l)[k]?=some (o+8 * k,l[k]):=by
  unfold pwW;rw [List.getElem?_map,List.getElem?_range hk];show some (o+8 * k,l.getD k 0)=_;rw [List.getD_eq_getElem?_getD,List.getElem?_eq_getElem hk];rfl
 rw [List.getElem?_eq_getElem h] at h2;injection h2
theorem y6f (b next:Nat) (A:Option Addr) (n c:Nat) (p:List Nat) (w:World) (h:z0c w w.heap.size 1 A n (u8s p)) (hp:∀ x∈p,x < 256) (hn:n<=2000) (hc:n<=c) (hnx:next < 18446744073709551616) (hb0:b≠0) (ht:Tab w) (hpy:Pay w) :
  Calls Tryz.prog 106 #[.int .u64 b,.int .u64 next,.slice A n c] w (w7j w (pwW (pOff b) (payL next p))):=by
 have GG:p.length=n:=by have:=h.1;simp [u8s] at this;omega
 have Gx:=hid (y0h n oM w hpy);have Gz:=z4q n;have Gy:=y3y n;obtain ⟨q,hq⟩:∃ q,z1c n=q:=⟨_,rfl⟩
 rw [hq] at Gx Gz Gy;have GI:=w1z q oM;rw [w5s] at GI;have Gf:=Blk.new w 32 (uA (List.replicate q 0));have GD:Blw w (w.alloc (.cells (uA (List.replicate q 0)) 32)):=(Below.refl _ _).alloc (nL _) _;have Gr:Hid (∀ W,Blw w W->Calls Tryz.prog 204 #[.slice A (min n 456) c] W (w4n W (z2a (p.take 456)))):=hid (fun W hW=>by
  refine w2e A (min n 456) c (p.take 456) W ?_ (fun x hx=>hp x (List.mem_of_mem_take hx)) oM;have h1:=(h.below hW).more hW.size;have h2:=z0c.take8 h1 456;rw [show (u8s p).take 456=u8s (p.take 456) by simp [u8s]] at h2;exact h2)
 obtain ⟨k4,G0⟩:∃ k4,min n 456=k4:=⟨_,rfl⟩
 rw [G0] at Gr;have m1:min (n:Int) 456=(k4:Int):=oM;have m2:(k4:Int)<=(c:Int):=oM;have m3:(0:Int)<=(k4:Int):=oM;have HV:=hid (w5k n oM);have Gw:=hid hnx;have Gt:=hid hp;have Gp:=hid GG;have Gv:=hid (show z1c n=q/\k4<=456/\k4<=n/\3+(k4+7) / 8<=q/\q<=60 from ⟨hq,oM,oM,by rw [<- G0];exact Gy,Gz.2⟩);have GV:=hid ht;have Da:q<=60:=oM;have q0:(0:Int) < (q:Int):=oM;have q1:(1:Int) < (q:Int):=oM;have q2:(2:Int)<=(q:Int):=oM;have GZ:3<=q:=oM;have Db:¬ q=2:=oM;have m4:(if (456:Int) < (n:Int) then (456:Int) else (n:Int))=(k4:Int):=by split <;> omega
 obtain ⟨pk,G1⟩:∃ pk,z2a (p.take 456)=pk:=⟨_,rfl⟩
 have GY:pk.length<=q - 3:=by rw [<- G1,z3x,List.length_take];omega
 have Ge:=hid G1;rw [G1] at Gr;clear h hp hnx hq Gz Gy ht hpy G0 GG;go_enter Tryz.func106,Tryz.ntmps106
 go_upto_region 2 with (go_at_call 104;refine Gx.out.mono ?_;rintro e w1 ⟨rfl,rfl⟩)
 generalize hWW:w.alloc (.cells (uA (List.replicate q 0)) 32)=W1 at *;have c0:W1.cell? ⟨w.heap.size,0,none⟩=some (.int .u64 0):=by rw [Gf.cell,x0l (by simp;omega)];simp
 have c1:W1.cell? ⟨w.heap.size,1,none⟩=some (.int .u64 0):=by rw [Gf.cell,x0l (by simp;omega)];simp
 have z0:W1.frozen? ⟨w.heap.size,0,none⟩=false:=Gf.frozen 0;have z1:W1.frozen? ⟨w.heap.size,1,none⟩=false:=Gf.frozen 1;go_upto_region 4 with fail
 rw [HV.out];have Gu:Hid (Blk ((W1.setCell ⟨w.heap.size,0,none⟩ (.int .u64 next)).setCell ⟨w.heap.size,1,none⟩ (.int .u64 ((n * 4294967297:Nat):Int))) w.heap.size 32 (z0a (next :: n * 4294967297 :: List.replicate (q - 2) 0)).toArray):=hid (by
  have h1:=(Gf.set_ 0 (.int .u64 next)).set_ 1 (.int .u64 ((n * 4294967297:Nat):Int));rw [x2j,x2j,w6i q _ _ GZ] at h1;exact h1)
 have Gm:Hid (Blw w ((W1.setCell ⟨w.heap.size,0,none⟩ (.int .u64 next)).setCell ⟨w.heap.size,1,none⟩ (.int .u64 ((n * 4294967297:Nat):Int)))):=hid ((GD.setCell (nL _) _).setCell (nL _) _);generalize (W1.setCell ⟨w.heap.size,0,none⟩ (.int .u64 next)).setCell ⟨w.heap.size,1,none⟩ (.int .u64 ((n * 4294967297:Nat):Int))=W2 at *;clear c0 c1 z0 z1 Gf GD hWW;have Gi:=hid (Gr.out W2.drew Gm.out.drew);refine z0g (fun _=>True) 8 [] [(1,0),(1,1),(1,2),(1,3),(1,4),(1,5),(1,6),(0,7)] (by kernel_rfl) (by kernel_rfl) trivial ?_;refine tkG (.slice (some ⟨w.heap.size,0,none⟩) q q) ?_;refine tkG (.slice (some ⟨w.heap.size,2,none⟩) (q - 2) (q - 2)) ?_;refine tkG (.slice A n c) ?_;refine tkG (.slice A n c) ?_;refine tkG (.int .i64 n) ?_;refine tkG (.int .i64 k4) ?_;refine tkG (.slice A k4 c) ?_;refine z0b (by rfl) ?_;go_wp2_with (go_at_call 204;refine Gi.out.mono ?_;rintro e w3 ⟨A3,m3,c3,rfl,GH,GJ,GW,Gk⟩;have G8:=hid GH;have GB:=hid GJ;have Gg:=hid Gk;clear GH GJ GW Gk)
 refine ⟨trivial,?_⟩;show wpList _ _ _ _ _ _;simp only [List.drop_succ_cons,List.drop_zero];have Gc:Hid (Blw W2 w3):=hid ((Below.refl _ W2).drew.trans Gg.out);have Gh:=hid (Gu.out.below Gc.out Gu.out.lt);have Gl:pk.length<=q - 2:=oM;refine wpList_copy_splice rfl (.tmp 29) (.tmp 35) 99 99 rfl 32 Tryz.underlying99 (by kernel_rfl) (some ⟨w.heap.size,2,none⟩) A3 (q - 2) (q - 2) m3 c3 rfl rfl w.heap.size 2 (z0a (next :: n * 4294967297 :: List.replicate (q - 2) 0)) 32 Gh.out (z0a pk) ?n1 ?n2 ?n3 ?n4 w.heap.size w (Gm.out.trans (Gc.out.mono Gm.out.size)) (nL _) ?_
 case n1 =>
  show _=min m3 (q - 2);have h1:=G8.out;rw [Nat.min_eq_left oM];simp [z0a];omega
 case n2 =>
  intro h0;refine ⟨rfl,?_⟩;obtain ⟨ad,hA,_,hc⟩:=GB.out.2 (by have:=G8.out;simp [z0a] at h0;omega);exact ⟨ad,hA,hc⟩
 case n3=>simp [z0a];omega
 case n4=>intro v hv;unfold z0a at hv;obtain ⟨y,_,rfl⟩:=List.mem_map.1 hv;rfl
 intro W4 hg4 hb4;have G5:Hid (Blk W4 w.heap.size 32 (uA ([next,n * 4294967297]++pk++List.replicate (q - 2 - pk.length) 0))):=hid (by
  have h1:=hg4.out;rw [x4x _ _ _ _ Gl] at h1;exact h1)
 have Gn:=hid hb4;clear hg4 hb4 Gu Gh Gm Gg Gc GB;go_wp2_with fail
 refine NoPanic.normal ?_;have GC:=hid (x8x w.heap.size q q ([next,n * 4294967297]++pk++List.replicate (q - 2 - pk.length) 0) W4 G5.out (by simp;omega) oM oM (nL _) oM (fun x hx=>by
  rcases List.mem_append.1 hx with hx | hx
  ·rcases List.mem_append.1 hx with hx | hx
   ·simp at hx
    rcases hx with rfl | rfl
    ·exact Gw.out
    ·omega
   ·rw [<- Ge.out] at hx
    exact x1t (fun b hb=>Gt.out b (List.mem_of_mem_take hb)) x hx
  ·have:=(List.mem_replicate.1 hx).2
   omega) (GV.out.below Gn.out))
 have Gd:Hid (([next,n * 4294967297]++pk++List.replicate (q - 2 - pk.length) 0).take (([next,n * 4294967297]++pk++List.replicate (q - 2 - pk.length) 0).length - 1)++[sumW (([next,n * 4294967297]++pk++List.replicate (q - 2 - pk.length) 0).take (([next,n * 4294967297]++pk++List.replicate (q - 2 - pk.length) 0).length - 1))]=payL next p):=hid (by
  have e1:([next,n * 4294967297]++pk++List.replicate (q - 2 - pk.length) 0)=payB next p++[0]:=by
   unfold payB;rw [Ge.out,Gp.out,Gv.out.1,show q - 2 - pk.length=(q - 3 - pk.length)+1 by omega,List.replicate_succ'];simp only [List.append_assoc]
  rw [e1];unfold payL;have e2:(payB next p++[0]).length - 1=(payB next p).length:=by simp
  rw [e2,List.take_left])
 obtain ⟨pl,Gb⟩:∃ pl,payL next p=pl:=⟨_,rfl⟩
 have GO:=hid Gb;rw [Gb] at Gd;have Gj:Hid (Calls Tryz.prog 205 #[.slice (some ⟨w.heap.size,0,none⟩) q q] W4 fun e w'=>e=.returned (.tuple #[])/\Blk w' w.heap.size 32 (uA pl)/\Blw w w'):=hid (GC.out.mono (fun e w' h=>by
  obtain ⟨h1,h2,h3⟩:=h;rw [Gd.out] at h2;exact ⟨h1,h2,Gn.out.trans (h3.toBelow Gn.out.size (fun k hk=>by subst hk;exact nL _))⟩))
 have Gq:Hid (pl.length=q/\∀ x∈pl,x < 18446744073709551616):=hid (by
  rw [<- Gb,z3n,Gp.out,Gv.out.1];exact ⟨rfl,x8h Gw.out Gt.out (by rw [Gp.out];exact hn)⟩)
 clear GC Gd Gb G5 Gv Ge Gw Gt Gp GY Gl Gr Gi HV;have G3:Hid (∀ (j:Nat) (W:World),j < q->Calls Tryz.prog 49 #[.int .u64 b,.int .i64 j] W fun e w'=>e=.returned (.int .u64 ((pOff b+8 * j:Nat):Int))/\W=w'):=hid (fun j W hj=>by
  have h1:=z8w b j oM W;have h2:pAt b j=pOff b+8 * j:=by unfold pAt;rw [if_neg oM]
  rw [h2] at h1;exact h1)
 have G2:pOff b<=34359738360:=by unfold pOff;omega
 obtain ⟨O,hO⟩:∃ O,pOff b=O:=⟨_,rfl⟩
 have GN:=hid hO;rw [hO] at G3 G2;clear hO;obtain ⟨i0,GX,Dd,De,Df⟩:=info_parts z2i;have G7:=hid (y1f O pl);go_wp2_with (go_at_call 205;refine Gj.out.mono ?_;rintro e W5 ⟨rfl,GF,GE⟩;have G6:=hid GF;have G4:=hid GE;clear GF GE)
 have G9:Hid (W5.ownsRow w.heap.size 114 2 (.slice none 0 0) 0 (z0d ((pwW O pl).take 0))):=World.ownsRow_nil _ _ _ _;clear Gj Gn GI m2 m4 Gx;go_loopw [8,41] (fun v i wr=>∃ (k:Nat) (A1:Option Addr) (m1 c1:Nat),k<=q/\i=.int .i64 k/\v=.slice A1 m1 c1/\m1=k/\Hid (wr.ownsRow w.heap.size 114 2 (.slice A1 m1 c1) m1 (z0d ((pwW O pl).take k)))/\Hid (Blw w wr)/\Hid (Blk wr w.heap.size 32 (uA pl))) (fun _ i _=>q - (Go.RowKit.intOf i).toNat)
 case atStart=>exact ⟨0,_,_,_,Nat.zero_le _,rfl,rfl,rfl,G9,G4,G6⟩
 case round =>
  clear G9 G4 G6;obtain ⟨k,A1,m1,c1,hk,rfl,rfl,Ga,HO,H,HK⟩:=hrel;by_cases hlt:k < q
  ·have Gs:k < pl.length:=by have:=Gq.out.1;omega
   have Dh:(0:Int)<=(k:Int):=oM;have Di:(k:Int) < (q:Int):=oM;have Dg:m1<=60:=oM;have HM:=hid Ga;have HA:=hid (fun W=>G3.out k W hlt);have f0:wr.cell? ⟨w.heap.size,k,none⟩=some (.int .u64 (pl[k]:Int)):=by rw [HK.out.cell];exact x0l Gs
   have GL:Hid (z0d ((pwW O pl).take k)++[.int .u64 ((O+8 * k:Nat):Int),.int .u64 (pl[k]:Int)]=z0d ((pwW O pl).take (k+1))):=hid (by rw [w2p O pl Gs];simp [z0d]);have Dc:=Gq.out.2 _ (List.getElem_mem Gs);generalize pl[k]=vk at *;generalize O+8 * k=y at *;have GR:=hid H.out.size;have GU:=hid (HO.out.alloc (.cells #[.int .u64 y,.int .u64 vk] 114));have GK:=hid (H.out.alloc H.out.size (.cells #[.int .u64 y,.int .u64 vk] 114));have GP:=hid (HK.out.alloc (.cells #[.int .u64 y,.int .u64 vk] 114));have GQ:=hid (z0i HO.out HK.out (by decide));clear H HO HK Ga Gs;go_wp2_with (first
    | (go_at_call 49;refine (HA.out _).mono ?_;rintro e w1 ⟨rfl,rfl⟩)
    | (at_builtin;refine z0p _ (.tmp 46) (.tmp 52) 108 rfl rfl w.heap.size 114 i0 _ 2 16 Tryz.underlying108 GX Dd De Df rfl ?q1 (.slice A1 m1 c1) m1 (z0d ((pwW O pl).take k)) rfl GU.out (wr.heap.size+1) (some ⟨wr.heap.size,0,none⟩) 1 1 [.int .u64 y,.int .u64 vk] rfl ?q5 ?q6 ?q2 ?q3 ?q4 ?_;(case q1=>omega);(case q5=>exact z0m _ _ rfl _ 1 2 114 _ rfl rfl);(case q6=>(intro u hu;simp at hu;rcases hu with rfl | rfl <;> rfl));(case q2=>(unfold maxLen;omega));(case q3=>omega);(case q4=>(have:=GR.out;simp;omega));intro A3 n3 c3 w8 hn3 ho3 hg3 Gk;have GS:=hid hn3;have GT:=hid ho3;have Gg:=hid (GK.out.trans Gk);have Gh:=hid (GP.out.grown hg3 (fun e=>GQ.out e.symm));clear hn3 ho3 hg3 Gk)
    | go_in)
   have b1:n3=k+1:=by have:=GS.out;have:=HM.out;omega
   have GA:Hid (w8.ownsRow w.heap.size 114 2 (.slice A3 n3 c3) n3 (z0d ((pwW O pl).take (k+1)))):=hid (by have h:=GT.out;rw [GL.out] at h;exact h);go_roundw
   case rel =>
    first
     | exact ⟨k+1,_,_,_,oM,by go_num,rfl,b1,GA,Gg,Gh⟩
     | (
       repeat apply Exists.intro
       refine ⟨?_,rfl⟩;exact ⟨k+1,_,_,_,oM,by go_num,rfl,b1,GA,Gg,Gh⟩)
   case measure=>simp [Go.RowKit.intOf];omega
  ·obtain rfl:q=k:=oM
   have GM:Hid (w7j w (pwW (pOff b) (payL next p)) (.returned (.slice A1 m1 c1)) wr):=hid (by
    rw [GO.out,GN.out];have h:=HO.out;rw [List.take_of_length_le (by rw [G7.out,Gq.out.1];exact nL _)] at h;exact ⟨A1,m1,c1,rfl,by rw [G7.out,Gq.out.1];exact Ga,h,H.out⟩)
   clear HO H HK Ga hlt hk;go_wp2;go_ret;exact GM.out
end
section
open Go.RowKit Go.Maps
section
variable {a:DA} {L T n K:Nat} {x:HA} {cs cs2:Nat->CS} {f f2:Nat->Option Nat} {N m b0:Nat} {S:Fp} {cur cur2:Nat->Nat} {w:World} {al p bl ks:List Nat} {V:Nat->Nat} {cm i:Nat}
theorem z4h (p:List Nat):0 < nBlk p.length:=by unfold nBlk;split <;> omega
end
end
section
open Go.RowKit
theorem w2a (x:Nat) (h:x < 18446744073709551616):bits .and .u64 (x:Int) 4294967295=((x % 4294967296:Nat):Int):=by
 have h1:=u64_and_nat x 4294967295 h oM;rw [show ((4294967295:Nat):Int)=4294967295 from rfl] at h1;rw [h1,show (4294967295:Nat)=2 ^ 32 - 1 from rfl,Nat.and_two_pow_sub_one_eq_mod]
theorem x2s (p : Addr) (w : World) : (nilAhead 640 59 (.pointer (some p)) "Load").run Tryz.prog w=.ok (some false) w := by kernel_rfl
section
variable {a:DA} {L T:Nat} {w:World} {S:Fp} {cur:Nat->Nat} {F:Nat} {d g r:Nat}
theorem x0o (h:Dev a L T w S cur F) (hB:Blk w d 240 (z1k a g r)) (p k:Nat) (hp0:p≠0) (hk:k < 60) (bp bs:Nat) (hc:w.cell? ⟨bp,0,none⟩=some (.int .u64 p)) (hs:w.cell? ⟨bs,0,none⟩=some (dirV d)) :
  Calls Tryz.prog 308 #[.int .i64 k,.pointer (some ⟨bp,0,none⟩),.pointer (some ⟨bs,0,none⟩)] w fun e w'=>e=.returned (.bool (decide (pOff p+8 * k+8<=64 * L)))/\Blw w w':=by
 have hL:L<=4096:=by obtain ⟨ls,Ge,Gj,cs,Gi,Gd,Gg⟩:=h;exact Gd.hL
 have Ga:=hid (z8w p k oM);have e1:pAt p k=pOff p+8 * k:=by unfold pAt;rw [if_neg oM]
 have ho:pOff p<=34359738360:=by unfold pOff;omega
 rw [e1] at Ga;have Gb:Hid (∀ W,W=w.drew->Calls Tryz.prog 436 #[.pointer (some ⟨d,0,none⟩)] W (fun e w'=>e=.returned (.int .u64 ((64 * L:Nat):Int))/\W=w')):=hid (fun W hW=>by subst hW;exact w9o (h.below (Below.refl _ _).drew) hB.drew);have hm:=x7t (some ⟨d,0,none⟩);obtain ⟨z,hz⟩:∃ z,pOff p+8 * k=z:=⟨_,rfl⟩
 obtain ⟨m,Gc⟩:∃ m,64 * L=m:=⟨_,rfl⟩
 rw [hz] at Ga ⊢;rw [Gc] at Gb ⊢;have Gh:z<=40000000000:=oM;have Gf:m<=300000:=oM;clear e1 ho hz Gc h hB hL;unfold dirV at *;go_enter Tryz.func308,Tryz.ntmps308
 go_wp2_with fail
 refine z0g (fun w'=>w'=w.drew) 5 [] [(1,0),(1,1),(1,3),(0,2),(0,4)] (by kernel_rfl) (by kernel_rfl) rfl ?_;refine tkH (.int .u64 p) (fun w' hS=>?_) ?_
 ·subst hS
  go_simp
 refine tkG (.int .i64 k) ?_;refine tkH (.iface 59 (.pointer (some ⟨d,0,none⟩))) (fun w' hS=>?_) ?_
 ·subst hS
  go_simp
 refine z0b (by rfl) ?_;go_wp2_with (go_at_call 49;refine (Ga.out _).mono ?_;rintro e w1 ⟨rfl,rfl⟩)
 refine ⟨rfl,?_⟩;refine z0b (by rfl) ?_;go_wp2_with (go_at_call 436;refine (Gb.out _ rfl).mono ?_;rintro e w1 ⟨rfl,rfl⟩)
 refine ⟨rfl,?_⟩;show wpList _ _ _ _ _ _;simp only [List.drop_succ_cons,List.drop_zero];by_cases c1:z < m
 ·have u1:IntKind.u64.wrap ((m:Int) - (z:Int))=((m - z:Nat):Int):=by rw [IntKind.wrap_u64];omega
  have d2:decide ((8:Int)<=((m - z:Nat):Int))=decide (z+8<=m):=decide_eq_decide.2 oM;have d1:decide ((z:Int) < (m:Int))=true:=dT;generalize m - z=q at *;go_wp2;refine NoPanic.normal ?_;go_wp2;go_ret;refine ⟨?_,(Below.refl _ _).drew⟩;first | rfl | rw [d2] | simp [d2]
 ·have d1:decide ((z:Int) < (m:Int))=false:=dF
  have d2:decide (z+8<=m)=false:=dF;go_wp2;refine NoPanic.normal ?_;go_wp2;go_ret;refine ⟨?_,(Below.refl _ _).drew⟩;rw [d2];rfl
def ldL (cur:Nat->Nat) (o n k:Nat):List Nat:=(List.range n).map fun j=>if j < k then cur (o+j) else 0
theorem y9k (cur:Nat->Nat) (o n k:Nat):(ldL cur o n k).length=n:=by simp [ldL]
theorem w1s (cur:Nat->Nat) (o n:Nat):ldL cur o n 0=List.replicate n 0:=by
 apply List.ext_getElem
 ·simp [ldL]
 ·intro i h1 h2
  simp [ldL]
theorem w5o (cur:Nat->Nat) (o n k:Nat):(ldL cur o n k).set k (cur (o+k))=ldL cur o n (k+1):=by
 apply List.ext_getElem
 ·simp [ldL]
 ·intro i h1 h2
  rw [List.getElem_set];simp only [ldL,List.getElem_map,List.getElem_range];by_cases e:k=i
  ·subst e
   rw [if_pos rfl,if_pos oM]
  ·rw [if_neg e]
   by_cases h:i < k
   ·rw [if_pos h,if_pos oM]
   ·rw [if_neg h,if_neg oM]
theorem w5n (cur:Nat->Nat) (o n:Nat):ldL cur o n n=(List.range n).map fun j=>cur (o+j):=by
 apply List.ext_getElem
 ·simp [ldL]
 ·intro i h1 h2
  simp only [ldL,List.getElem_map,List.getElem_range];rw [if_pos (by simpa [ldL] using h1)]
theorem x4c (L:Nat) (cur:Nat->Nat) (p:Nat) (c1:¬ 64 * L < pOff p+16) (hv:cur (pOff p / 8+1) < 18446744073709551616) (_hL:L<=4096):∃ (v rest hi:Nat),cur (pOff p / 8+1)=v/\bits .and .u64 (v:Int) 4294967295=(rest:Int)/\(v:Int) / 4294967296=(hi:Int)/\rest < 4294967296 /\
  ((z4g L cur p=none/\((rest:Int) != (hi:Int))=true)\/(z4g L cur p=none/\((rest:Int) != (hi:Int))=false/\decide ((2000:Int) < (rest:Int))=true) \/
   ∃ n1 n:Nat,((rest:Int) != (hi:Int))=false/\decide ((2000:Int) < (rest:Int))=false/\rest<=2000/\z1c rest=n1/\(n1:Int) - 1=(n:Int)/\n < 60/\n1<=60/\wrap64 (n:Int)=(n:Int) /\
    ((decide (pOff p+8 * n+8<=64 * L)=false/\z4g L cur p=none)\/(decide (pOff p+8 * n+8<=64 * L)=true/\z4g L cur p=some ((List.range n1).map fun j=>cur (pOff p / 8+j),rest)/\∀ k,k < n1->pOff p+8 * k+8<=64 * L))):=by
 obtain ⟨v,e⟩:∃ v,cur (pOff p / 8+1)=v:=⟨_,rfl⟩
 rw [e] at hv;refine ⟨v,v % 4294967296,v / 4294967296,e,w2a v hv,oM,oM,?_⟩;have hR:z4g L cur p=if v % 4294967296≠v / 4294967296\/2000 < v % 4294967296 then none else if 64 * L < pOff p+8 * z1c (v % 4294967296) then none else some ((List.range (z1c (v % 4294967296))).map fun j=>cur (pOff p / 8+j),v % 4294967296):=by
  unfold z4g;rw [if_neg c1,e]
 generalize v / 4294967296=hi at *;generalize v % 4294967296=rest at *;by_cases c3:rest=hi
 ·have d1:((rest:Int) != (hi:Int))=false:=by rw [bne,beq_iff_eq.2 oM];rfl
  by_cases c4:2000 < rest
  ·exact .inr (.inl ⟨by rw [hR,if_pos (.inr c4)],d1,dT⟩)
  ·rw [if_neg oM] at hR
   obtain ⟨h3,Ga⟩:=z4q rest;obtain ⟨n,hn⟩:∃ n,z1c rest=n+1:=⟨z1c rest - 1,oM⟩
   refine .inr (.inr ⟨n+1,n,d1,dF,oM,hn,oM,oM,oM,IntWalk.wrap64_in _ oM,?_⟩);rw [hn] at hR;by_cases c5:64 * L < pOff p+8 * (n+1)
   ·exact .inl ⟨dF,by rw [hR,if_pos c5]⟩
   ·exact .inr ⟨dT,by rw [hR,if_neg c5],fun k hk=>oM⟩
 ·exact .inl ⟨by rw [hR,if_pos (.inl c3)],by rw [bne,beq_eq_false_iff_ne.2 oM];rfl⟩
def x9y (w:World) (o:Option (List Nat × Nat)) (e:Ending) (w':World):Prop:=match o with
 | none=>e=.returned (.tuple #[.slice none 0 0,.int .i64 0,.int .i64 11])/\Blw w w'
 | some (l,rest)=>∃ g,e=.returned (.tuple #[.slice (some ⟨g,0,none⟩) l.length l.length,.int .i64 rest,.int .i64 0])/\Blk w' g 32 (uA l)/\w.heap.size<=g/\Blw w w'
theorem x6c (h:Dev a L T w S cur 0) (hB:Blk w d 240 (z1k a g r)) (hpy:Pay w) (hbn:∀ i,cur i < 18446744073709551616) (p:Nat) (hp0:p≠0) (_hp64:p < 18446744073709551616) :
  Calls Tryz.prog 222 #[dirV d,.int .u64 p] w (x9y w (z4g L cur p)):=by
 have hL:L<=4096:=by obtain ⟨ls,GY,Di,cs,Dh,GT,De⟩:=h;exact GT.hL
 have GJ:Blw w ((w.alloc (.cells #[dirV d] 83)).alloc (.cells #[.int .u64 p] 54)):=((Below.refl _ _).alloc (nL _) _).alloc (by simp) _;have Gj:=hid GJ;have HS:=hid ((Blk.new w 83 #[dirV d]).alloc (.cells #[.int .u64 p] 54));have GH:(w.alloc (.cells #[dirV d] 83)).heap.size=w.heap.size+1:=by simp
 have HP:Hid (Blk ((w.alloc (.cells #[dirV d] 83)).alloc (.cells #[.int .u64 p] 54)) (w.heap.size+1) 54 #[.int .u64 p]):=hid (by
  have:=Blk.new (w.alloc (.cells #[dirV d] 83)) 54 #[.int .u64 p];rw [GH] at this;exact this)
 have HD:=hid h;have Gq:=hid hB;have GP:=hid hpy;have GG:Hid (∀ (W:World) (k:Nat),k < 60->Blw w W->W.cell? ⟨w.heap.size,0,none⟩=some (dirV d)->W.cell? ⟨w.heap.size+1,0,none⟩=some (.int .u64 p)->Calls Tryz.prog 308 #[.int .i64 k,.pointer (some ⟨w.heap.size+1,0,none⟩),.pointer (some ⟨w.heap.size,0,none⟩)] W fun e w'=>e=.returned (.bool (decide (pOff p+8 * k+8<=64 * L)))/\Blw W w'):=hid (fun W k hk hW h1 h2=>by
  have h5:=x0o (h.below hW) (hB.below hW hB.lt) p k hp0 hk (w.heap.size+1) w.heap.size h2 h1;exact h5)
 have Dc:∀ (fn:Fn) (first cap:Array Value) (w:World),(Instr.makeFunc fn first cap).run Tryz.prog w=.ok (.func fn first cap) w:=fun _ _ _ _=>rfl
 have Da:=z3b (some ⟨d,0,none⟩);have Db:=y7j (some ⟨d,0,none⟩);have Dd:=x2s ⟨d,0,none⟩;clear h hB hpy GJ GH;unfold dirV at *;go_enter Tryz.func222,Tryz.ntmps222
 go_upto_region 2 with fail
 have GS:=HS.out.cell 0;have GR:=HP.out.cell 0;generalize hW0:(w.alloc (.cells #[.iface 59 (.pointer (some ⟨d,0,none⟩))] 83)).alloc (.cells #[.int .u64 p] 54)=W0 at *;clear hW0;have GW:pOff p % 8=0:=by unfold pOff;omega
 have GX:pOff p<=34359738360:=by unfold pOff;omega
 have G9:Hid (∀ (k:Nat) (W:World),k < 60->Calls Tryz.prog 49 #[.int .u64 p,.int .i64 k] W fun e w'=>e=.returned (.int .u64 ((pOff p+8 * k:Nat):Int))/\W=w'):=hid (fun k W hk=>by
  have h1:=z8w p k oM W;have h2:pAt p k=pOff p+8 * k:=by unfold pAt;rw [if_neg oM]
  rw [h2] at h1;exact h1)
 have GF:Hid (∀ (k:Nat) (W:World),pOff p+8 * k+8<=64 * L->Blw w W->Calls Tryz.prog 435 #[.pointer (some ⟨d,0,none⟩),.int .u64 ((pOff p+8 * k:Nat):Int)] W (fun e w'=>e=.returned (.int .u64 (cur (pOff p / 8+k):Int))/\W=w')):=hid (fun k W hk hW=>w8e (HD.out.below hW) (Gq.out.below hW Gq.out.lt) (pOff p+8 * k) _ oM oM (by rw [show (pOff p+8 * k) / 8=pOff p / 8+k by omega]));have GB:Hid (∀ W,Blw w W->Calls Tryz.prog 432 #[.pointer (some ⟨d,0,none⟩)] W fun e w'=>e=.returned (.int .i64 0)/\W=w'):=hid (fun W hW=>errD (HD.out.below hW) (Gq.out.below hW Gq.out.lt));have Gi:=hid (GG.out W0 1 oM Gj.out GS GR);rw [show ((1:Nat):Int)=1 from rfl] at Gi;have Gs:Hid (z4g L cur p=none->∀ w',Blw w w'->x9y w (z4g L cur p) (.returned (.tuple #[.slice none 0 0,.int .i64 0,.int .i64 11])) w'):=hid (fun h w' hb=>by rw [h];exact ⟨rfl,hb⟩);by_cases c1:64 * L < pOff p+16
 ·have hR:z4g L cur p=none:=by unfold z4g;rw [if_pos c1]
  have HF:=hid (Gs.out hR);rw [show decide (pOff p+8 * 1+8<=64 * L)=false from dF] at Gi;clear c1 hR;go_wp2_with (go_at_call 308;refine Gi.out.mono ?_;rintro e w1 ⟨rfl,Gf⟩;have Gk:=hid Gf;clear Gf)
  go_ret3
  exact HF.out _ (Gj.out.trans (Gk.out.mono Gj.out.size))
 ·rw [show decide (pOff p+8 * 1+8<=64 * L)=true from dT] at Gi
  obtain ⟨v,Gn,hi,hv,GV,GU,G7,Gm⟩:=x4c L cur p c1 (hbn _) hL;have Gb:=hid Gm;clear Gm;go_upto_region 4 with (go_at_call 308;refine Gi.out.mono ?_;rintro e w1 ⟨rfl,Gf⟩;have Gk:=hid (Gj.out.trans (Gf.mono Gj.out.size));have G2:=hid (HS.out.below Gf HS.out.lt);have Gz:=hid (HP.out.below Gf HP.out.lt);clear Gf)
  have Gt:=hid (GF.out 1 w1.drew oM Gk.out.drew);rw [hv] at Gt;have Gp:=hid (G9.out 1 w1.drew oM);rw [show ((1:Nat):Int)=1 from rfl] at Gp;generalize pOff p+8 * 1=o1 at Gt Gp;refine z0g (fun w'=>w'=w1.drew) 6 [] [(1,0),(1,1),(1,3),(1,4),(1,5),(0,2)] (by kernel_rfl) (by kernel_rfl) rfl ?_;refine tkH (.iface 59 (.pointer (some ⟨d,0,none⟩))) (fun w' hS=>?_) ?_
  ·subst hS;have f1:w1.cell? ⟨w.heap.size,0,none⟩=some (.iface 59 (.pointer (some ⟨d,0,none⟩))):=G2.out.cell 0
   go_simp
  refine tkH (.int .u64 p) (fun w' hS=>?_) ?_
  ·subst hS;have f1:w1.cell? ⟨w.heap.size+1,0,none⟩=some (.int .u64 p):=Gz.out.cell 0
   go_simp
  refine tkH (.func (.method "Load") #[.iface 59 (.pointer (some ⟨d, 0, none⟩))] #[]) (fun w' hS => ?_) ?_
  ·go_simp
  refine tkH (.func (.method "Load") #[.iface 59 (.pointer (some ⟨d, 0, none⟩))] #[]) (fun w' hS => ?_) ?_
  ·go_simp
  refine tkG (.iface 59 (.pointer (some ⟨d,0,none⟩))) ?_;refine z0b (by rfl) ?_;go_wp2_with (go_at_call 49;refine Gp.out.mono ?_;rintro e w2 ⟨rfl,rfl⟩)
  refine ⟨rfl,?_⟩;show wpList _ _ _ _ _ _;simp only [List.drop_succ_cons,List.drop_zero];go_wp2_with (go_at_call 435;refine Gt.out.mono ?_;rintro e w2 ⟨rfl,rfl⟩)
  refine NoPanic.normal ?_;have Gc:=hid Gk.out.drew;have G4:=hid G2.out.drew;have G0:=hid Gz.out.drew;clear Gt Gp Gi Gk G2 Gz;generalize w1.drew=w2 at *;have Gw:=hid (GB.out w2 Gc.out);have f1:w2.cell? ⟨w.heap.size,0,none⟩=some (.iface 59 (.pointer (some ⟨d,0,none⟩))):=G4.out.cell 0;go_upto_region 9 with (go_at_call 432;refine Gw.out.mono ?_;rintro e w3 ⟨rfl,rfl⟩)
  rcases Gb.out with ⟨hR,d1⟩ | ⟨hR,d1,d2⟩ | ⟨n1,n,d1,d2,hr2,hn1,e2,hn60,Gh,e1,hrest⟩
  ·have HF:=hid (Gs.out hR)
   clear hR Gb;go_wp2;go_ret3
   exact HF.out _ Gc.out
  ·have HF:=hid (Gs.out hR)
   clear hR Gb;go_wp2;go_ret3
   exact HF.out _ Gc.out
  ·have Gy:=hid (And.intro hn60 Gh)
   have Gw:=hid e1;have GK:=hid e2;have GN:=hid hn1;have G1:=hid hrest;clear hn60 Gh e1 e2 hn1 hrest Gb;go_upto_region 11 with fail
   clear GU GV G7 d1 d2;have G5:=hid (y0h Gn (Nat.le_trans hr2 (by decide)) w2 (GP.out.below Gc.out));rw [GN.out] at G5;have f2:w2.cell? ⟨w.heap.size+1,0,none⟩=some (.int .u64 p):=G0.out.cell 0;have GI:=GG.out w2 n Gy.out.1 Gc.out f1 f2;have Gl:Calls Tryz.prog 308 #[.int .i64 (wrap64 (n:Int)),.pointer (some ⟨w.heap.size+1,0,none⟩),.pointer (some ⟨w.heap.size,0,none⟩)] w2 fun e w'=>e=.returned (.bool (decide (pOff p+8 * n+8<=64 * L)))/\Blw w2 w':=by rw [Gw.out];exact GI
   have Gv:=hid Gl;clear GI Gl f2;have e2:=GK.out;rcases G1.out with ⟨hd,hR⟩ | ⟨hd,hR,hfit⟩
   ·have HF:=hid (Gs.out hR)
    rw [hd] at Gv;clear hR G1 hd;go_wp2_with (first
     | (go_at_call 104;refine G5.out.mono ?_;rintro e w3 ⟨rfl,rfl⟩)
     | (go_at_call 308;refine Gv.out.mono ?_;rintro e w3 ⟨rfl,Gg⟩;have Ge:=hid (Gc.out.trans (Gg.mono Gc.out.size));clear Gg))
    go_ret3
    exact HF.out _ Ge.out
   ·rw [hd] at Gv
    have GQ:=hid hR;have Gx:=hid hfit;have G6:=w1z n1 (Nat.le_trans Gy.out.2 (by decide));rw [show madeCells #[.int .u64 0] n1=uA (ldL cur (pOff p / 8) n1 0) by rw [w1s];apply Array.ext';rw [toList_madeCells_one];unfold uA z0a;simp] at G6;clear hR G1 hd hfit;go_wp2_with (first
     | (go_at_call 104;refine G5.out.mono ?_;rintro e w3 ⟨rfl,rfl⟩)
     | (go_at_call 308;refine Gv.out.mono ?_;rintro e w3 ⟨rfl,Gg⟩;have Ge:=hid (Gc.out.trans (Gg.mono Gc.out.size));have Gu:=hid (G4.out.below Gg G4.out.lt);have GE:=hid (G0.out.below Gg G0.out.lt);clear Gg))
    have Gh:=Gy.out.2;have Gd:Hid (Blk (w3.alloc (.cells (uA (ldL cur (pOff p / 8) n1 0)) 32)) w3.heap.size 32 (uA (ldL cur (pOff p / 8) n1 0))):=hid (Blk.new w3 _ _);have Ga:Hid (Blw w3 (w3.alloc (.cells (uA (ldL cur (pOff p / 8) n1 0)) 32))):=hid ((Below.refl _ _).alloc (nL _) _);go_loopw [53] (fun i wr=>∃ k:Nat,k<=n1/\i=.int .i64 k/\Hid (Blk wr w3.heap.size 32 (uA (ldL cur (pOff p / 8) n1 k)))/\Hid (Blw w3 wr)) (fun i _=>n1 - (Go.RowKit.intOf i).toNat)
    case atStart=>exact ⟨0,Nat.zero_le _,rfl,Gd,Ga⟩
    case round =>
     clear Gd Ga;obtain ⟨k,hk,rfl,Gd,Ga⟩:=hrel;by_cases hlt:k < n1
     ·have Gr:=hid (Ge.out.trans (Ga.out.mono Ge.out.size))
      have G3:=hid (Gu.out.below Ga.out Gu.out.lt);have GO:=hid (GE.out.below Ga.out GE.out.lt);have GC:=hid (GF.out k wr.drew (Gx.out k hlt) Gr.out.drew);have G8:=hid (G9.out k wr.drew oM);have GD:Hid (Blk (wr.drew.setCell ⟨w3.heap.size,k,none⟩ (.int .u64 (cur (pOff p / 8+k):Int))) w3.heap.size 32 (uA (ldL cur (pOff p / 8) n1 (k+1)))):=hid (by
       have h1:=Gd.out.drew.set_ k (.int .u64 (cur (pOff p / 8+k):Int));rw [x2j,w5o] at h1;exact h1)
      have GA:Hid (Blw w3 (wr.drew.setCell ⟨w3.heap.size,k,none⟩ (.int .u64 (cur (pOff p / 8+k):Int)))):=hid (Ga.out.drew.setCell (nL _) _);have Df:(0:Int)<=(k:Int):=oM;have Dg:(k:Int) < (n1:Int):=oM;have c9:wr.drew.cell? ⟨w3.heap.size,k,none⟩=some (.int .u64 (((ldL cur (pOff p / 8) n1 k)[k]'(by rw [y9k];exact hlt):Nat):Int)):=by rw [Gd.out.drew.cell];exact x0l (by rw [y9k];exact hlt)
      have z9:wr.drew.frozen? ⟨w3.heap.size,k,none⟩=false:=Gd.out.drew.frozen k;generalize (ldL cur (pOff p / 8) n1 k)[k]'(by rw [y9k];exact hlt)=old at *;have GZ:cur (pOff p / 8+k) < 18446744073709551616:=hbn _;generalize cur (pOff p / 8+k)=vk at *;generalize pOff p+8 * k=ok at GC G8;clear Gd Ga;go_upto_region 18 with fail
      refine z0g (fun w'=>w'=wr.drew) 10 [] [(1,0),(1,1),(1,2),(1,3),(1,4),(1,6),(1,7),(1,8),(0,5),(0,9)] (by kernel_rfl) (by kernel_rfl) rfl ?_;refine tkG (.slice (some ⟨w3.heap.size,0,none⟩) n1 n1) ?_;refine tkG (.int .i64 k) ?_;refine tkH (.iface 59 (.pointer (some ⟨d,0,none⟩))) (fun w' hS=>?_) ?_
      ·subst hS;have f1:wr.cell? ⟨w.heap.size,0,none⟩=some (.iface 59 (.pointer (some ⟨d,0,none⟩))):=G3.out.cell 0
       go_simp
      refine tkH (.int .u64 p) (fun w' hS=>?_) ?_
      ·subst hS;have f1:wr.cell? ⟨w.heap.size+1,0,none⟩=some (.int .u64 p):=GO.out.cell 0
       go_simp
      refine tkG (.int .i64 k) ?_;refine tkH (.func (.method "Load") #[.iface 59 (.pointer (some ⟨d, 0, none⟩))] #[]) (fun w' hS => ?_) ?_
      ·go_simp
      refine tkH (.func (.method "Load") #[.iface 59 (.pointer (some ⟨d, 0, none⟩))] #[]) (fun w' hS => ?_) ?_
      ·go_simp
      refine tkG (.iface 59 (.pointer (some ⟨d,0,none⟩))) ?_;refine z0b (by rfl) ?_;go_wp2_with (go_at_call 49;refine G8.out.mono ?_;rintro e w2 ⟨rfl,rfl⟩)
      refine ⟨rfl,?_⟩;refine z0b (by rfl) ?_;go_wp2_with (go_at_call 435;refine GC.out.mono ?_;rintro e w2 ⟨rfl,rfl⟩)
      refine ⟨rfl,?_⟩;show wpList _ _ _ _ _ _;simp only [List.drop_succ_cons,List.drop_zero];go_wp2;refine NoPanic.normal ?_;go_wp2;go_roundw
      case rel =>
       first
        | exact ⟨k+1,oM,by go_num,GD,GA⟩
        | (
          repeat apply Exists.intro
          refine ⟨?_,rfl⟩;exact ⟨k+1,oM,by go_num,GD,GA⟩)
      case measure=>simp [Go.RowKit.intOf];omega
     ·obtain rfl:k=n1:=oM
      have Gr:=hid (Ge.out.trans (Ga.out.mono Ge.out.size));have G3:=hid (Gu.out.below Ga.out Gu.out.lt);have f4:wr.cell? ⟨w.heap.size,0,none⟩=some (.iface 59 (.pointer (some ⟨d,0,none⟩))):=G3.out.cell 0;have GL:=hid (GB.out wr Gr.out);have HG:=hid Ge.out.size;have GM:Hid (x9y w (z4g L cur p) (.returned (.tuple #[.slice (some ⟨w3.heap.size,0,none⟩) k k,.int .i64 Gn,.int .i64 0])) wr):=hid (by
       rw [GQ.out];refine ⟨w3.heap.size,?_,?_,HG.out,Gr.out⟩
       ·simp
       ·have h1:=Gd.out
        rw [w5n] at h1;exact h1)
      clear Gd Ga hlt hk;go_wp2_with (go_at_call 432;refine GL.out.mono ?_;rintro e w5 ⟨rfl,rfl⟩)
      go_ret3
      exact GM.out
end
end
section
open Go.RowKit Go.Maps
theorem x0e {m m':Nat} {P:Program} {l fn:Nat} {tmps:Array Value} {assign body:Code} {W:World} {R:Ending->World->Prop} (h:RoundIn Fence.wide m P l fn tmps assign body W R):RoundIn Fence.wide m' P l fn tmps assign body W R:=by
 exact ⟨h.1,fun c cs _=>h.2 c cs (room_wide _)⟩
theorem z2d {β:Type} {B:Nat} {J:β->World->Prop} (h:AbidesFrom B J) {s:β} {W W':World} (hs:J s W) (hb:Blw W W'):J s W' :=
 h s W W' none hs ⟨hb.os,hb.tape,hb.output,hb.size,fun k hk _=>hb.block k hk⟩ (fun r e=>by cases e)
section
variable {a:DA} {L T s n K:Nat} {x:HA} {cs:Nat->CS} {f:Nat->Option Nat} {N m b0:Nat} {S:Fp} {cur:Nat->Nat} {w w0:World} {d r:Nat}
end
end
section
open Go.RowKit
structure y8m (a:DA) (L:Nat) (cur:Nat->Nat) (w:World):Prop where
 dev:∃ exe,Blk w a.d 158 (z7h a L exe)
 per:Blk w a.pb 32 (uA ((List.range (8 * L)).map cur))
 lin:∃ ls,Blk w a.lb 298 ls/\∀ i,i < L->∃ A c,ls[i * 2+1]?=some (.slice A 0 c)
 hL:L<=4096
theorem w3a {a:DA} {L T:Nat} {w:World} {S:Fp} {cur:Nat->Nat} {D N:Nat->Prop} {F:Nat} (h:DevM a L T w S cur D N F) (hD:∀ k,¬ D k):y8m a L cur w:=by
 obtain ⟨s,Gb,Gd,cs,ls,hc,_,Gc⟩:=h;have Ga:∀ i,i < L->s.ws i=[]:=fun i hi=>by
  rw [List.eq_nil_iff_forall_not_mem];intro e he;have h1:=hc.lin i hi e he;have h2:=Gc (e.1 / 8) oM (hD _) e;rw [show e.1 / 8 / 8=i by omega] at h2;exact h2 he rfl
 refine ⟨⟨Gb,hc.dev⟩,?_,⟨ls,hc.linB,fun i hi=>?_⟩,hc.hL⟩
 ·have e:Gd=uA ((List.range (8 * L)).map cur):=by
   apply Array.ext_getElem?;intro i;by_cases hi:i < 8 * L
   ·have h1:=hc.link i hi
    rw [Ga (i / 8) oM] at h1;have h1:s.pw i=cur i:=h1;rw [hc.pv i hi,x0l (by simpa using hi),h1];simp
   ·rw [Array.getElem?_eq_none (by rw [hc.perS];omega),Array.getElem?_eq_none (by simp [uA,z0a];omega)]
  rw [<- e];exact hc.perB
 ·rw [hc.linH i hi]
  have ho:=hc.own i hi;have hx:=hc.hx i hi;rw [Ga i hi] at hx;have hm:s.m i=0:=by
   have h1:=ho.1;rw [hx] at h1;simp [z0d] at h1;omega
  rcases ho.2 with ⟨h1,_⟩ | ⟨g,cap,cur,h1,_⟩
  ·exact ⟨_,_,by rw [h1]⟩
  ·exact ⟨_,_,by rw [h1,hm]⟩
theorem y8m.below {a:DA} {L:Nat} {w w':World} {cur:Nat->Nat} (h:y8m a L cur w) (hb:Blw w w'):y8m a L cur w':=by
 obtain ⟨⟨Ga,h1⟩,h2,⟨ls,h3,h4⟩,h5⟩:=h;exact ⟨⟨Ga,h1.below hb h1.lt⟩,h2.below hb h2.lt,⟨ls,h3.below hb h3.lt,h4⟩,h5⟩
theorem y9a {a:DA} {L:Nat} {w:World} {cur:Nat->Nat} (h:y8m a L cur w) :
  Calls Tryz.prog 191 #[.pointer (some ⟨a.d,0,none⟩)] w fun e w'=>e=.returned (.slice none 0 0)/\w=w':=by
 obtain ⟨⟨Ga,h1⟩,_,⟨ls,h3,h4⟩,h5⟩:=h;have f2:w.cell? ⟨a.d,2,none⟩=some (.slice (some ⟨a.lb,0,none⟩) L L):=h1.cell 2;have HL:=hid h3;have H4:=hid h4;generalize a.lb=lb at *;clear h1 h3 h4;go_enter Tryz.func191,Tryz.ntmps191
 go_wp2;go_loopw [3,12] (fun v3 i wr=>∃ k:Nat,k<=L/\v3=.slice none 0 0/\i=.int .i64 k/\w=wr) (fun _ i _=>L - (Go.RowKit.intOf i).toNat)
 case atStart=>exact ⟨0,Nat.zero_le _,rfl,rfl,rfl⟩
 case round =>
  obtain ⟨k,hk,rfl,rfl,rfl⟩:=hrel;by_cases hlt:k < L
  ·obtain ⟨A,c,e⟩:=H4.out k hlt
   have f3:w.cell? ⟨lb,k * 2+1,none⟩=some (.slice A 0 c):=by rw [HL.out.cell];exact e
   have Gb:(0:Int)<=(k:Int):=oM;have Gc:(k:Int) < (L:Int):=oM;clear e;go_wp2;go_roundw
   case rel =>
    first
     | exact ⟨k+1,oM,rfl,by go_num,trivial⟩
     | exact ⟨k+1,oM,rfl,by go_num,rfl⟩
     | (
       repeat apply Exists.intro
       refine ⟨?_,rfl⟩;exact ⟨k+1,oM,rfl,by go_num,rfl⟩)
   case measure=>simp [Go.RowKit.intOf];omega
  ·obtain rfl:L=k:=oM
   go_wp2;go_ret;exact ⟨rfl,rfl⟩
def x5o (w:World) (l:List Nat) (e:Ending) (w':World):Prop:=∃ g,e=.returned (.slice (some ⟨g,0,none⟩) l.length l.length)/\z0c w' w'.heap.size 1 (some ⟨g,0,none⟩) l.length (u8s l)/\Blw w w'
theorem y8t (A:Option Addr) (q c n:Nat) (xs:List Nat) (w:World) (h:z0c w w.heap.size 1 A q (z0a xs)) (hx:∀ x∈xs,x < 18446744073709551616) (hn:n=8 * q) (hq:q<=100000) :
  Calls Tryz.prog 193 #[.slice A q c] w (x5o w (unpB xs n)):=by
 have Gj:xs.length=q:=by have:=h.1;simp [z0a] at this;omega
 have HR:=hid h;have HX:=hid hx;have Gm:=w8h n oM;have Gp:n<=8 * q:=oM;have u1:wrap64 ((q:Int) * 8)=(n:Int):=by rw [IntWalk.wrap64_in _ oM];omega
 have u2:IntKind.i64.wrap ((q:Int) * 8)=(n:Int):=by rw [IntKind.wrap_i64];omega
 have u3:(q:Int) * 8=(n:Int):=oM;have Gn:n<=800000:=oM;clear h hx Gj hn;go_enter Tryz.func193,Tryz.ntmps193
 go_wp2;go_loopw [11] (fun i wr=>∃ k:Nat,k<=n/\i=.int .i64 k/\Hid (∃ cs,Blk wr w.heap.size 5 cs/\cs.size=n/\∀ j,j < k->cs[j]?=some (.int .u8 ((xs.getD (j / 8) 0 / 256 ^ (j % 8) % 256:Nat):Int)))/\Hid (Blw w wr)) (fun i _=>n - (Go.RowKit.intOf i).toNat)
 case atStart =>
  exact ⟨0,Nat.zero_le _,rfl,hid ⟨_,Blk.new w _ _,size_madeCells _ _,fun j hj=>absurd hj oM⟩,hid ((Below.refl _ _).alloc (nL _) _)⟩
 case round =>
  obtain ⟨k,hk,rfl,HC,HB⟩:=hrel;by_cases hlt:k < n
  ·have Gi:k / 8 < q:=oM
   obtain ⟨hl,b,Gt,hA,Gg,f0⟩:=z2b (HR.out.below HB.out) Gi;subst hA;obtain ⟨cs,hB,Gf,Gb⟩:=HC.out;have e:xs.getD (k / 8) 0=xs[k / 8]:=by rw [List.getD_eq_getElem?_getD,List.getElem?_eq_getElem hl];rfl
   have Gc:=HX.out _ (List.getElem_mem hl);rw [<- e] at f0 Gc;have e2:(((xs.getD (k / 8) 0:Nat):Int) / 2 ^ (k % 8 * 8)) % 256=((xs.getD (k / 8) 0 / 256 ^ (k % 8) % 256:Nat):Int):=by
    rw [show (256:Nat) ^ (k % 8)=2 ^ (k % 8 * 8) by rw [show (256:Nat)=2 ^ 8 by decide,<- Nat.pow_mul,Nat.mul_comm 8 (k % 8)]];push_cast;rfl
   have Ge:k < cs.size:=oM;have HN:Hid (∃ cs',Blk (wr.setCell ⟨w.heap.size,k,none⟩ (.int .u8 ((xs.getD (k / 8) 0 / 256 ^ (k % 8) % 256:Nat):Int))) w.heap.size 5 cs'/\cs'.size=n/\∀ j,j < k+1->cs'[j]?=some (.int .u8 ((xs.getD (j / 8) 0 / 256 ^ (j % 8) % 256:Nat):Int))):=hid ⟨_,hB.set_ k _,by simp [Gf],fun j hj=>by
    rw [Array.getElem?_setIfInBounds];by_cases e:k=j
    ·subst e
     simp [Ge]
    ·rw [if_neg e,Gb j oM]⟩
   have Gd:Hid (Blw w (wr.setCell ⟨w.heap.size,k,none⟩ (.int .u8 ((xs.getD (k / 8) 0 / 256 ^ (k % 8) % 256:Nat):Int)))):=hid (HB.out.setCell (nL _) _);have f1:wr.cell? ⟨w.heap.size,k,none⟩=some cs[k]:=by rw [hB.cell,Array.getElem?_eq_getElem Ge]
   have z1:wr.frozen? ⟨w.heap.size,k,none⟩=false:=hB.frozen _;have Ga:=hid e2;clear e Gb HC Gg hB e2;generalize cs[k]=ck at *;generalize xs.getD (k / 8) 0=z at *;generalize z / 256 ^ (k % 8) % 256=r at *;have Gq:(0:Int)<=(k:Int):=oM;have Gr:(k:Int) < (n:Int):=oM;have Gs:(k:Int) / 8 < (q:Int):=oM;go_wp2;go_roundw
   case rel =>
    first
     | (
       refine ⟨k+1,oM,by go_num,?_,?_⟩
       ·rw [Ga.out];exact HN
       ·rw [Ga.out];exact Gd)
     | (
       repeat apply Exists.intro
       refine ⟨?_,rfl⟩;refine ⟨k+1,oM,by go_num,?_,?_⟩
       ·rw [Ga.out];exact HN
       ·rw [Ga.out];exact Gd)
   case measure=>simp [Go.RowKit.intOf];omega
  ·have Gh:k=n:=oM
   have HF:Hid (x5o w (unpB xs n) (.returned (.slice (some ⟨w.heap.size,0,none⟩) n n)) wr):=hid (by
    obtain ⟨cs,hB,Gf,Gb⟩:=HC.out;refine ⟨w.heap.size,by rw [z3c],z3j hB ?_ ?_,HB.out⟩
    ·simp [u8s,z3c]
    ·intro j u hu
     have hj:j < n:=by
      have h1:=(List.getElem?_eq_some_iff.1 hu).1;simp [u8s,z3c] at h1;omega
     rw [Gb j oM,<- hu];simp [u8s,unpB,hj])
   have Gk:decide ((k:Int) < (n:Int))=false:=dF;have Gl:decide (k < n)=false:=decide_eq_false hlt;clear Gh hlt hk HC;go_wp2;go_ret;exact HF.out
end
section
open Go.ChangeShapes Go.WideShapes Go.ChangeAt Go.RowKit
structure BL where
 A:Option Addr
 n:Nat
 c:Nat
 l:List Nat
section
variable {H:Type} {enc:TypeId × Value->H} {W:World} {b0 base:Nat} {sp:Nat->Bool} {held:Bool} {v:Value} {d:DataW H} {p:List MemPlace} {r:Reach}
end
end
section
open Go.RowKit Go.Maps
def Vac (s K:Nat) (cs:Nat->CS) (f:Nat->Option Nat) (cl k i:Nat):Prop:=k < K/\(cs k).dv=true/\(cs k).cl=cl/\i < perC cl/\((cs k).bs i).st=176/\f (offO s cs k i)=none
def SchP (s K:Nat) (cs:Nat->CS) (f:Nat->Option Nat) (cl kind:Nat) (v:Value):Prop :=
 (v=.tuple #[.int .u64 0,.int .i64 0,.int .i64 5]/\∀ k i,¬ Vac s K cs f cl k i) \/
 ∃ k i,Vac s K cs f cl k i/\v=.tuple #[.int .u64 (fptr s cs kind k i:Int),.int .i64 ((s+32 * k:Nat):Int),.int .i64 0]
section
variable {a:DA} {L T s n K:Nat} {x:HA} {cs:Nat->CS} {f:Nat->Option Nat} {N m b0:Nat} {S:Fp} {cur:Nat->Nat} {w w':World}
theorem x4d (z:Int) (hz:(Lit.int .i64 z).wf=true) (W:World):(Instr.lookup 192 (.map none) (.int .i64 z) false).run Tryz.prog W=.ok (.bool false) W :=
 Maps.look_nil false y2v Tryz.underlying192 (by kernel_rfl) (keyOf_int_mk Tryz.underlying3 hz)
theorem x4s (h:DS a L T s n K x cs f N m b0 S cur w) (cl kind:Nat) (hk0:0 < kind) (hk8:kind < 128) :
  Calls Tryz.prog 346 #[.pointer (some ⟨x.h,0,none⟩),.int .i64 0,.int .i64 cl,.int .u8 kind] w fun e w'=>∃ v,e=.returned v/\SchP s K cs f cl kind v/\Blw w w':=by
 have Ga:=h.few;have Gl:=hid (x3i h.hs.plc Ga.1 oM cl);have G1:Hid (∀ k,k < K->(cs k).dv=true->∀ W,Blw w W->Calls Tryz.prog 348 #[.pointer (some ⟨x.h,0,none⟩),.int .i64 ((s+32 * k:Nat):Int),.int .u8 kind] W fun e w'=>∃ v,e=.returned v/\w0d s cs f kind k v/\Blw W w'):=hid (fun k hk hd W hW=>y3n (h.below hW) hk hd kind hk0 hk8);have HD:=hid h.hs.heap;have G3:w.cell? ⟨x.h,3,none⟩=some (.pointer (some ⟨x.gs,0,none⟩)):=h.hs.heap.cell 3;have HL:Hid (∀ y∈z4f s cs cl K,∃ k,k < K/\(cs k).dv=true/\(cs k).cl=cl/\y=((s+32 * k:Nat):Int)):=hid (fun y hy=>x6j hy);have Gw:Hid (∀ k,k < K->(cs k).dv=true->(cs k).cl=cl->((s+32 * k:Nat):Int)∈z4f s cs cl K):=hid (fun k h1 h2 h3=>w0s h1 h2 h3);have Gv:=hid Ga;have Gx:=hid (Nat.le_trans (y6b s cs cl K) Ga.1);clear h Ga;unfold HA.p at *;dsimp only at *;generalize z4f s cs cl K=l at *;go_enter Tryz.func346,Tryz.ntmps346
 go_wp2_with (go_at_call 376;refine Gl.out.mono ?_;rintro e w1 ⟨A,q,c,rfl,Gd,Gq⟩;refine stop ?_)
 unfold Stop;have Gz:=hid (z0c.of_own Gd);have Gc:=hid Gq;have Gt:q<=128:=by have:=Gd.1;rw [z6g] at this;have:=Gx.out;omega
 have Gn:=hid (show l.length=q by have:=Gd.1;rw [z6g] at this;omega);clear Gd Gq Gl G3;go_wp2_with fail
 have Gm:Hid (Blw w1 w1):=Below.refl _ _;go_loopw [23] (fun i wr=>∃ (j:Nat),j<=q/\i=.int .i64 j/\Hid (∀ t,t < j->∀ k,k < K->(cs k).dv=true->(cs k).cl=cl->l[t]?=some ((s+32 * k:Nat):Int)->∀ i,¬ Vac s K cs f cl k i)/\Hid (Blw w1 wr)) (fun i _=>q - (RowKit.intOf i).toNat)
 case atStart=>exact ⟨0,Nat.zero_le _,rfl,hid (fun t ht=>oM),Gm⟩
 case round =>
  clear Gm;obtain ⟨j,hj,rfl,HA,H⟩:=hrel;by_cases hlt:j < q
  ·have Gi:j < l.length:=by rw [Gn.out];exact hlt
   obtain ⟨b,G4,hA,G5,Gb⟩:=(Gz.out.below H.out).plain oM oM;have f0:wr.cell? ⟨b,G4+j,none⟩=some (.int .i64 l[j]):=Gb j _ (by simp [z1x,Gi]);subst hA;obtain ⟨k,hk,Gh,Gs,hy⟩:=HL.out l[j] (List.getElem_mem Gi);have Gg:=hid (show l[j]?=some ((s+32 * k:Nat):Int) by rw [List.getElem?_eq_getElem Gi,hy]);rw [hy] at f0;have G7:(0:Int)<=(j:Int):=oM;have G8:(j:Int) < (q:Int):=oM;have Gk:=hid (Gc.out.trans (H.out.mono Gc.out.size));have f6:wr.cell? ⟨x.h,6,none⟩=some (.map none):=(HD.out.below Gk.out HD.out.lt).cell 6;have Gp:=hid (G1.out k hk Gh wr Gk.out);have G6:=x4d ((s+32 * k:Nat):Int) (WalkArith.wf_i64 ⟨oM,by have:=Gv.out;omega⟩);have HK:=hid (show k < K/\(cs k).dv=true/\(cs k).cl=cl from ⟨hk,Gh,Gs⟩);clear Gb hy hk Gh Gs;generalize hv:((s+32 * k:Nat):Int)=v at *;have HV:=hid hv;clear hv;go_wp2_with (go_at_call 348;refine Gp.out.mono ?_;rintro e w2 ⟨v2,rfl,hP,Gr⟩;refine stop ?_)
   unfold Stop;have Ge:=hid (H.out.trans (Gr.mono H.out.size));clear Gr H Gp f0 f6;rcases hP with ⟨rfl,hnone⟩ | ⟨i,hi,hst,hfi,rfl⟩
   ·have Gj:Hid (∀ t,t < j+1->∀ k,k < K->(cs k).dv=true->(cs k).cl=cl->l[t]?=some ((s+32 * k:Nat):Int)->∀ i,¬ Vac s K cs f cl k i):=hid (fun t ht k' hk' hd' hc' hl' i' hv'=>by
     by_cases e:t=j
     ·subst e
      have h1:=Gg.out;rw [hl',<- HV.out] at h1;simp at h1;have h2:k'=k:=oM;subst h2;obtain ⟨_,_,h3,h4,h5,h6⟩:=hv';exact hnone i' (by rw [h3];exact h4) h5 h6
     ·exact HA.out t oM k' hk' hd' hc' hl' i' hv')
    clear hnone HA Gg HV;go_wp2;go_roundw
    case rel =>
     first
      | exact ⟨j+1,oM,by go_num,Gj,Ge⟩
      | (
        repeat apply Exists.intro
        refine ⟨?_,rfl⟩;exact ⟨j+1,oM,by go_num,Gj,Ge⟩)
    case measure=>simp [RowKit.intOf];omega
   ·have G0:Hid (Vac s K cs f cl k i):=hid ⟨HK.out.1,HK.out.2.1,HK.out.2.2,by rw [<- HK.out.2.2];exact hi,hst,hfi⟩
    have Gf:=hid (Gc.out.trans (Ge.out.mono Gc.out.size));clear hi hst hfi HA Gg HK;generalize hfp:fptr s cs kind k i=fp at *;have Gu:=hid hfp;clear hfp;go_wp2;go_ret3
    exact ⟨_,rfl,.inr ⟨k,i,G0.out,by rw [HV.out,Gu.out];rfl⟩,Gf.out⟩
  ·obtain rfl:q=j:=oM
   have Gy:Hid (∀ k i,¬ Vac s K cs f cl k i):=hid (fun k i hv=>by
    have h1:=Gw.out k hv.1 hv.2.1 hv.2.2.1;obtain ⟨t,ht,G2⟩:=List.getElem_of_mem h1;exact HA.out t (by have:=Gn.out;omega) k hv.1 hv.2.1 hv.2.2.1 (by rw [List.getElem?_eq_getElem ht,G2]) i hv)
   have Gf:=hid (Gc.out.trans (H.out.mono Gc.out.size));clear HA;go_wp2;go_ret3
   exact ⟨_,rfl,.inl ⟨rfl,Gy.out⟩,Gf.out⟩
end
end
end Go.Proofs.YtfkjjoglnmeciaaGreatDoor
