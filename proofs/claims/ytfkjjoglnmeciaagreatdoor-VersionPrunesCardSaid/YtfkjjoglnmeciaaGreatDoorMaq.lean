/- part 17 -/
import Derived.Test.YtfkjjoglnmeciaaGreatDoorMao
import Derived.Test.YtfkjjoglnmeciaaGreatDoorMap
set_option maxRecDepth 100000
set_option maxHeartbeats 16000000
namespace Go.Proofs.YtfkjjoglnmeciaaGreatDoor
open Go.Lib (hid)
section
open Go.RowKit
section
theorem x7a (b:BK) (hb:b.In) (w:World):Calls Tryz.prog 361 #[b.v] w fun e w'=>e=.returned (z1u b).v/\Blw w w':=by
 obtain ⟨g,k,s⟩:=b;obtain ⟨hg,hk,hs⟩:=hb;dsimp only at hg hk hs;unfold BK.v z1u;dsimp only;have HB:Hid (Blw w ((w.alloc (.cells #[.int .u16 g,.int .u8 k,.int .u8 s] 401)).alloc (.cells #[.int .u16 0,.int .u8 0,.int .u8 0] 401))):=hid (((Below.refl _ w).alloc (nL _) _).alloc (by simp) _);by_cases h1:g=65535
 ·subst h1
  rw [if_pos rfl];go_enter Tryz.func361,Tryz.ntmps361
  go_wp2;have Ga:=Blk.new2 w (.cells #[.int .u16 65535,.int .u8 k,.int .u8 s] 401) 401 #[.int .u16 65535,.int .u8 0,.int .u8 178];have Gb:Blw w ((w.alloc (.cells #[.int .u16 65535,.int .u8 k,.int .u8 s] 401)).alloc (.cells #[.int .u16 65535,.int .u8 0,.int .u8 178] 401)):=((Below.refl _ w).alloc (nL _) _).alloc (by simp) _;generalize (w.alloc (.cells #[.int .u16 65535,.int .u8 k,.int .u8 s] 401)).alloc (.cells #[.int .u16 65535,.int .u8 0,.int .u8 178] 401)=W at *;have c0:W.cell? ⟨w.heap.size+1,0,none⟩=some (.int .u16 65535):=Ga.cell 0;have c1:W.cell? ⟨w.heap.size+1,1,none⟩=some (.int .u8 0):=Ga.cell 1;have c2:W.cell? ⟨w.heap.size+1,2,none⟩=some (.int .u8 178):=Ga.cell 2;refine bodyPost_ret (v := .agg #[.int .u16 65535,.int .u8 0,.int .u8 178]) (by simp [results,Tryz.results361,go_sem,c0,c1,c2]) rfl ⟨rfl,Gb⟩
 ·rw [if_neg h1]
  have e1:((g:Int) == 65535)=false:=by rw [beq_eq_false_iff_ne];omega
  have e2:IntKind.u16.wrap ((g:Int)+1)=((g+1:Nat):Int):=by rw [IntKind.wrap_u16];omega
  dsimp only;generalize g+1=g1 at *;go_enter Tryz.func361,Tryz.ntmps361
  go_wp2;have Ga:=Blk.new2 w (.cells #[.int .u16 g,.int .u8 k,.int .u8 s] 401) 401 #[.int .u16 g1,.int .u8 0,.int .u8 176];have Gb:Blw w ((w.alloc (.cells #[.int .u16 g,.int .u8 k,.int .u8 s] 401)).alloc (.cells #[.int .u16 g1,.int .u8 0,.int .u8 176] 401)):=((Below.refl _ w).alloc (nL _) _).alloc (by simp) _;generalize (w.alloc (.cells #[.int .u16 g,.int .u8 k,.int .u8 s] 401)).alloc (.cells #[.int .u16 g1,.int .u8 0,.int .u8 176] 401)=W at *;have c0:W.cell? ⟨w.heap.size+1,0,none⟩=some (.int .u16 g1):=Ga.cell 0;have c1:W.cell? ⟨w.heap.size+1,1,none⟩=some (.int .u8 0):=Ga.cell 1;have c2:W.cell? ⟨w.heap.size+1,2,none⟩=some (.int .u8 176):=Ga.cell 2;refine bodyPost_ret (v := .agg #[.int .u16 g1,.int .u8 0,.int .u8 176]) (by simp [results,Tryz.results361,go_sem,c0,c1,c2]) rfl ⟨rfl,Gb⟩
def z5h (V:Nat) (l:List Nat):Prop:=V < 18446744073709551616/\∀ i,z1r V i=decide (i∈l)
theorem z5h.nil:z5h 0 []:=⟨oM,fun i=>by rw [y2i];simp⟩
theorem z5h.add {V:Nat} {l:List Nat} (h:z5h V l) {i:Nat} (hi:i < 64):z5h (V ||| 2 ^ i) (l++[i]):=by
 obtain ⟨h1,h2⟩:=x6b h.1 hi;refine ⟨h1,fun j=>?_⟩;rw [h2];by_cases e:j=i
 ·subst e;simp
 ·rw [if_neg e,h.2 j];simp [e]
theorem y4r {w:World} {B n:Nat} {A:Option Addr} {l:List Nat} (h:z0c w B 1 A n (z0x l)) {k:Nat} (hk:k < n) :
  ∃ (hl:k < l.length) (b off:Nat),A=some ⟨b,off,none⟩/\b < B/\w.cell? ⟨b,off+k,none⟩=some (.int .i64 ((l[k]:Nat):Int)):=by
 have hl:k < l.length:=by have:=h.1;simp [z0x] at this;omega
 obtain ⟨b,off,hA,hb,hc⟩:=h.plain oM oM;exact ⟨hl,b,off,hA,hb,hc k _ (by simp [z0x,hl])⟩
theorem w2c (a:DA) (ln cl g:Nat) (hc:cl < 5) (A1 A2:Option Addr) (n1 c1 n2 c2:Nat) (take drop:List Nat) (w:World) (hp:Pay w) (bl:Nat) (hbl:Blk w bl 34 #[.slice A1 n1 c1,.slice A2 n2 c2]) (h1:z0c w w.heap.size 1 A1 n1 (z0x take)) (h2:z0c w w.heap.size 1 A2 n2 (z0x drop)) (hn:(take++drop).Nodup) (hi:∀ i∈take++drop,i < perC cl) (hn1:n1<=1000) (hn2:n2<=1000) :
  Calls Tryz.prog 318 #[chV a ln cl 0 g,.slice (some ⟨bl,0,none⟩) 2 2] w fun e w'=>e=.returned (.bool true)/\Blw w w':=by
 have Gy:Blw w (w.alloc (.cells (z0o a ln cl g) 306)):=(Below.refl _ _).alloc (nL _) _;have Ge:=hid Gy;have HK:=hid (Blk.new w 306 (z0o a ln cl g));have Gn:=hid (hbl.alloc (.cells (z0o a ln cl g) 306));have Gh:Hid (∀ i,i < perC cl->∀ W,Blw w W->Calls Tryz.prog 298 #[chV a ln cl 0 g,.int .i64 i] W fun e w'=>e=.returned (.bool true)/\Blw W w'):=hid (fun i hi W hW=>by
  have h:=z7f a ln cl 0 g i hc W (hp.below hW);rw [decide_eq_true hi] at h;exact h)
 have G1:=hid h1;have G2:=hid h2;have G0:=hid (show take.length=n1 by have:=h1.1;simp [z0x] at this;omega);have GF:=hid (show drop.length=n2 by have:=h2.1;simp [z0x] at this;omega);have HI:=hid (show (take++drop).Nodup/\(∀ i∈take++drop,i < perC cl)/\perC cl<=62 from ⟨hn,hi,(z2u cl).2⟩);clear hp h1 h2 hn hi hbl hc;unfold chV at *;unfold z0o memV at *;generalize hW:w.alloc (.cells #[.iface 58 (.pointer (some ⟨a.th 0,0,none⟩)),.int .i64 ln,.int .i64 cl,.int .i64 0,.int .u16 g] 306)=W at *;have Gx:=hid hW.symm;clear hW Gy;have Gw:Hid (Blw W W):=Below.refl _ _;go_enter Tryz.func318,Tryz.ntmps318
 have q0:W.cell? ⟨bl,0,none⟩=some (.slice A1 n1 c1):=Gn.out.cell 0;have q1:W.cell? ⟨bl,1,none⟩=some (.slice A2 n2 c2):=Gn.out.cell 1;rw [Gx.out] at q0 q1;go_wp2;refine wp_loop_rounds 3 ?_;rw [rounds_succ];go_wp2;rw [<- Gx.out];have Gi:Hid (z5h 0 (take.take 0)):=hid z5h.nil;go_loopw [5,18] (fun v i wr=>∃ (k V:Nat),k<=n1/\i=.int .i64 k/\v=.int .u64 V/\Hid (z5h V (take.take k))/\Hid (Blw W wr)) (fun _ i _=>n1 - (Go.RowKit.intOf i).toNat)
 case atStart=>exact ⟨0,0,Nat.zero_le _,rfl,rfl,Gi,Gw⟩
 case round =>
  clear Gi Gw;obtain ⟨k,V,hk,rfl,rfl,HS,H⟩:=hrel;by_cases hlt:k < n1
  ·have Gg:=hid (Ge.out.trans (H.out.mono Ge.out.size))
   obtain ⟨hl,b,GE,hA,G5,f0⟩:=y4r (G1.out.below Gg.out) hlt;subst hA;have Gb:take[k]∈take++drop:=List.mem_append.2 (.inl (List.getElem_mem hl));have hi:=HI.out.2.1 _ Gb;have G3:=HI.out.2.2;have Gm:take[k] ∉ take.take k:=fun hh=>by
    obtain ⟨j,hj,he⟩:=List.getElem_of_mem hh;have Gs:j < k:=by simp at hj;omega
    have Gq:take[j]=take[k]:=by rw [<- he];simp
    have Gu:=(List.nodup_append.1 HI.out.1).1;exact (List.pairwise_iff_getElem.1 Gu) j k oM hl Gs Gq
   have Gc:take[k] ∉ (take.take k):=Gm;have Gj:Hid (z5h (V ||| 2 ^ take[k]) (take.take (k+1))):=hid (by rw [List.take_succ_eq_append_getElem hl];exact HS.out.add oM);have Gl:z1r V take[k]=false:=by rw [HS.out.2];exact decide_eq_false Gc
   have Gd:=x6a V take[k] HS.out.1;rw [Gl] at Gd;have Gp:=hid (Gh.out _ hi wr Gg.out);have u2:=y1k (i:=take[k]) oM;have u3:=u64_or_nat V (2 ^ take[k]) HS.out.1 (z4c oM);clear Gl Gc Gb HS Gm;generalize take[k]=i0 at *;have u1:IntKind.u64.wrap (i0:Int)=(i0:Int):=by rw [IntKind.wrap_u64];omega
   have GC:(0:Int)<=(k:Int):=oM;have GD:(k:Int) < (n1:Int):=oM;have Gr:(i0:Int) < 62:=oM;have GB:(0:Int)<=(i0:Int):=oM;generalize (V ||| 2 ^ i0)=V2 at *;generalize (2 ^ i0:Nat)=p2 at *;have Ga:=HK.out.below H.out HK.out.lt;have G6:wr.cell? ⟨w.heap.size,0,none⟩=some (.iface 58 (.pointer (some ⟨a.th 0,0,none⟩))):=Ga.cell 0;have G7:wr.cell? ⟨w.heap.size,1,none⟩=some (.int .i64 ln):=Ga.cell 1;have G8:wr.cell? ⟨w.heap.size,2,none⟩=some (.int .i64 cl):=Ga.cell 2;have G9:wr.cell? ⟨w.heap.size,3,none⟩=some (.int .i64 0):=Ga.cell 3;have GA:wr.cell? ⟨w.heap.size,4,none⟩=some (.int .u16 g):=Ga.cell 4;clear Ga;go_wp2_with (go_at_call 298;refine Gp.out.mono ?_;rintro e w2 ⟨rfl,Gk⟩;have Gf:=hid (H.out.trans (Gk.mono H.out.size));clear Gk)
   go_roundw
   case rel =>
    first
     | exact ⟨k+1,V2,oM,by go_num,rfl,Gj,Gf⟩
     | (
       repeat apply Exists.intro
       refine ⟨?_,rfl⟩;exact ⟨k+1,V2,oM,by go_num,rfl,Gj,Gf⟩)
   case measure=>simp [Go.RowKit.intOf];omega
  ·have Gt:k=n1:=oM
   subst Gt;have Gi:Hid (z5h V (take++drop.take 0)):=hid (by
    have h:=HS.out;rw [List.take_of_length_le (by rw [G0.out];exact nL _)] at h;simpa using h)
   have Gv:=hid H.out;have GG:wr.cell? ⟨bl,1,none⟩=some (.slice A2 n2 c2):=(Gn.out.below H.out Gn.out.lt).cell 1;obtain ⟨V1,G4⟩:∃ V1,V=V1:=⟨_,rfl⟩
   subst G4;clear HS H hlt hk q0 q1;go_wp2;rw [rounds_succ];go_wp2;go_loopw [5,18] (fun v i wr=>∃ (k V:Nat),k<=n2/\i=.int .i64 k/\v=.int .u64 V/\Hid (z5h V (take++drop.take k))/\Hid (Blw W wr)) (fun _ i _=>n2 - (Go.RowKit.intOf i).toNat)
   case atStart=>exact ⟨0,V,Nat.zero_le _,rfl,rfl,Gi,Gv⟩
   case round =>
    clear Gi Gv;obtain ⟨k,V,hk,rfl,rfl,HS,H⟩:=hrel;by_cases hlt:k < n2
    ·have Gg:=hid (Ge.out.trans (H.out.mono Ge.out.size))
     obtain ⟨hl,b,GE,hA,G5,f0⟩:=y4r (G2.out.below Gg.out) hlt;subst hA;have Gb:drop[k]∈take++drop:=List.mem_append.2 (.inr (List.getElem_mem hl));have hi:=HI.out.2.1 _ Gb;have G3:=HI.out.2.2;have Gm:drop[k] ∉ drop.take k:=fun hh=>by
      obtain ⟨j,hj,he⟩:=List.getElem_of_mem hh;have Gs:j < k:=by simp at hj;omega
      have Gq:drop[j]=drop[k]:=by rw [<- he];simp
      have Gu:=(List.nodup_append.1 HI.out.1).2.1;exact (List.pairwise_iff_getElem.1 Gu) j k oM hl Gs Gq
     have Gc:drop[k] ∉ (take++drop.take k):=fun hh=>by
      rcases List.mem_append.1 hh with hh | hh
      ·exact (List.nodup_append.1 HI.out.1).2.2 _ hh _ (List.getElem_mem hl) rfl
      ·exact Gm hh
     have Gj:Hid (z5h (V ||| 2 ^ drop[k]) (take++drop.take (k+1))):=hid (by rw [List.take_succ_eq_append_getElem hl,<- List.append_assoc];exact HS.out.add oM);have Gl:z1r V drop[k]=false:=by rw [HS.out.2];exact decide_eq_false Gc
     have Gd:=x6a V drop[k] HS.out.1;rw [Gl] at Gd;have Gp:=hid (Gh.out _ hi wr Gg.out);have u2:=y1k (i:=drop[k]) oM;have u3:=u64_or_nat V (2 ^ drop[k]) HS.out.1 (z4c oM);clear Gl Gc Gb HS Gm;generalize drop[k]=i0 at *;have u1:IntKind.u64.wrap (i0:Int)=(i0:Int):=by rw [IntKind.wrap_u64];omega
     have GC:(0:Int)<=(k:Int):=oM;have GD:(k:Int) < (n2:Int):=oM;have Gr:(i0:Int) < 62:=oM;have GB:(0:Int)<=(i0:Int):=oM;generalize (V ||| 2 ^ i0)=V2 at *;generalize (2 ^ i0:Nat)=p2 at *;have Ga:=HK.out.below H.out HK.out.lt;have G6:wr.cell? ⟨w.heap.size,0,none⟩=some (.iface 58 (.pointer (some ⟨a.th 0,0,none⟩))):=Ga.cell 0;have G7:wr.cell? ⟨w.heap.size,1,none⟩=some (.int .i64 ln):=Ga.cell 1;have G8:wr.cell? ⟨w.heap.size,2,none⟩=some (.int .i64 cl):=Ga.cell 2;have G9:wr.cell? ⟨w.heap.size,3,none⟩=some (.int .i64 0):=Ga.cell 3;have GA:wr.cell? ⟨w.heap.size,4,none⟩=some (.int .u16 g):=Ga.cell 4;clear Ga;go_wp2_with (go_at_call 298;refine Gp.out.mono ?_;rintro e w2 ⟨rfl,Gk⟩;have Gf:=hid (H.out.trans (Gk.mono H.out.size));clear Gk)
     go_roundw
     case rel =>
      first
       | exact ⟨k+1,V2,oM,by go_num,rfl,Gj,Gf⟩
       | (
         repeat apply Exists.intro
         refine ⟨?_,rfl⟩;exact ⟨k+1,V2,oM,by go_num,rfl,Gj,Gf⟩)
     case measure=>simp [Go.RowKit.intOf];omega
    ·have Gt:k=n2:=oM
     subst Gt;have Gz:=hid (Ge.out.trans (H.out.mono Ge.out.size));go_wp2;rw [rounds_succ];go_wp2;go_ret;exact ⟨rfl,Gz.out⟩
end
end
section
open Go.RowKit Go.Maps
def chkR (s K:Nat) (cs:Nat->CS) (p kind:Nat):Nat:=if p=0 then 1 else if p / 72057594037927936≠0 then 2 else match z3m s K (pOff p) with
 | none=>2
 | some k=>if (cs k).dv=true then (if (blkR (s+32 * k) (cs k).cl (cs k).bs p).2≠0 then (blkR (s+32 * k) (cs k).cl (cs k).bs p).2 else if kind≠0/\kind≠z1t p then 13 else 0) else 2
section
variable {a:DA} {L T s n K:Nat} {x:HA} {cs:Nat->CS} {f:Nat->Option Nat} {N m b0:Nat} {S:Fp} {cur:Nat->Nat} {w w':World}
theorem DS.home (h:DS a L T s n K x cs f N m b0 S cur w) (p:Nat) (W:World) (hW:Blw w W) :
  Calls Tryz.prog 194 #[.pointer (some ⟨x.h,0,none⟩),.int .u64 (pOff p:Int)] W fun e w'=>∃ (ln:Nat) (b:Bool),e=.returned (.tuple #[.int .i64 ln,.bool b])/\x5i s K (pOff p) ln b/\W=w':=by
 have h1:=h.hK;have h2:=h.hL;exact x1i (h.hs.heap.below hW h.hs.heap.lt) oM oM h1.1 (pOff p) (by unfold pOff;omega)
theorem y5z (h:DS a L T s n K x cs f N m b0 S cur w) (p kind:Nat) (hp64:p < 18446744073709551616) (hk:kind < 256) :
  Calls Tryz.prog 96 #[.pointer (some ⟨x.h,0,none⟩),.int .u64 p,.int .u8 kind] w fun e w'=>e=.returned (.int .i64 (chkR s K cs p kind:Int))/\Blw w w':=by
 have HD:=hid h;have Gd:=hid (y1a p w);have Gl:Hid (∀ W,Blw w W->Calls Tryz.prog 112 #[.pointer (some ⟨a.th 0,0,none⟩)] W fun e w'=>e=.returned (.int .i64 0)/\W=w'):=hid (fun W hW=>z9l (h.dev.below hW));have Gq:=hid (z4y p);have Gp:=hid (z9t p);have Gn:=hid (h.home p w (Below.refl _ _));have hm:=z1z (some ⟨a.th 0,0,none⟩);have Gr:w.cell? ⟨x.h,0,none⟩=some (.iface 58 (.pointer (some ⟨a.th 0,0,none⟩))):=h.hs.heap.cell 0;have Gj:Hid (Blw w w):=Below.refl _ _;clear h;by_cases hp0:p=0
 ·have HR:Hid (chkR s K cs p kind=1):=hid (by unfold chkR;rw [if_pos hp0])
  rw [decide_eq_true hp0] at Gd;clear hp0;go_enter Tryz.func96,Tryz.ntmps96
  go_wp2_with (go_at_call 22;refine Gd.out.mono ?_;rintro e w1 ⟨rfl,rfl⟩)
  go_ret;exact ⟨by rw [HR.out];rfl,Gj.out⟩
 ·rw [decide_eq_false hp0] at Gd
  have Ga:Hid (chkR s K cs p kind=if p / 72057594037927936≠0 then 2 else match z3m s K (pOff p) with
   | none=>2
   | some k=>if (cs k).dv=true then (if (blkR (s+32 * k) (cs k).cl (cs k).bs p).2≠0 then (blkR (s+32 * k) (cs k).cl (cs k).bs p).2 else if kind≠0/\kind≠z1t p then 13 else 0) else 2):=hid (by unfold chkR;rw [if_neg hp0])
  clear hp0;generalize chkR s K cs p kind=rr at *;generalize hpo:pOff p=po at *;have Gv:=hid hpo;clear hpo;go_enter Tryz.func96,Tryz.ntmps96
  go_wp2_with (first
   | (go_at_call 22;refine Gd.out.mono ?_;rintro e w1 ⟨rfl,rfl⟩)
   | (go_at_call 112;refine (Gl.out _ Gj.out).mono ?_;rintro e w1 ⟨rfl,rfl⟩)
   | (go_at_call 135;refine (Gq.out _).mono ?_;rintro e w1 ⟨rfl,rfl⟩)
   | (go_at_call 194;refine Gn.out.mono ?_;rintro e w1 ⟨ln,b,rfl,hP,rfl⟩;refine stop ?_))
  unfold Stop;clear Gd Gq Gn;rcases hP with ⟨hho,rfl,rfl⟩ | ⟨k,hho,hk,rfl,rfl⟩
  ·have HR:Hid (rr=2):=hid (by rw [Ga.out,hho];split <;> rfl)
   clear hho Ga;go_wp2;go_ret;exact ⟨by rw [HR.out];rfl,Gj.out⟩
  ·rw [hho] at Ga
   clear hho;dsimp only at Ga;have Gu:=hid hk;by_cases hpt:p / 72057594037927936=0
   ·rw [if_neg (fun hh=>hh hpt)] at Ga
    have q0:((p:Int) / 72057594037927936 == 0)=true:=by rw [beq_iff_eq];omega
    have q1:(p:Int) / 72057594037927936=0:=oM;clear hpt;have Gk:=HD.out.line hk;cases hd:(cs k).dv with
    | false =>
     have hu:cur (8 * (s+32 * k))=z4d (cs k).g/\0 < (cs k).g/\(cs k).g < 65536:=by
      have:=HD.out.ok k hk;unfold CSok at this;rw [hd] at this;exact this
     have HR:Hid (rr=2):=hid (by rw [Ga.out,hd];rfl);have Gi:=hid (z8z HD.out.dev HD.out.tab (s+32 * k) (cs k).g Gk hu.2.1 hu.2.2 hu.1);unfold y2l memV at Gi;clear Ga hd hu hk;generalize ((s+32 * k:Nat):Int)=v at *;go_wp2_with (go_at_call 195;refine Gi.out.mono ?_;rintro e w1 ⟨rfl,Ge⟩;refine stop ?_)
     unfold Stop;have Gb:=hid (Ge.alloc Ge.size (.cells #[.nilIface,.int .i64 0,.int .i64 0,.int .i64 0,.int .u16 0] 306));have Gc:=hid (Gl.out _ Gb.out);have Gs:w1.cell? ⟨x.h,0,none⟩=some (.iface 58 (.pointer (some ⟨a.th 0,0,none⟩))):=(HD.out.hs.heap.below Ge HD.out.hs.heap.lt).cell 0;have Gt:x.h < w1.heap.size:=Nat.lt_of_lt_of_le HD.out.hs.heap.lt Ge.size;clear Ge Gi Gr;go_wp2_with (go_at_call 112;refine Gc.out.mono ?_;rintro e w2 ⟨rfl,rfl⟩)
     go_ret;exact ⟨by rw [HR.out];rfl,Gb.out⟩
    | true =>
     rw [hd] at Ga;have hC:=HD.out.chw hk hd;have Gi:=hid (z3q HD.out.dev HD.out.tab HD.out.pay (s+32 * k) (cs k).cl (cs k).g Gk hC.cls hC.g0 hC.g1 hC.hdr);have Gm:Hid (∀ W,Blw w W->Calls Tryz.prog 196 #[chV a (s+32 * k) (cs k).cl 0 (cs k).g,.int .u64 p] W fun e w'=>e=.returned (.tuple #[.int .i64 ((blkR (s+32 * k) (cs k).cl (cs k).bs p).1:Int),.int .i64 ((blkR (s+32 * k) (cs k).cl (cs k).bs p).2:Int)])/\Blw W w'):=hid (fun W hW=>y8u (HD.out.dev.below hW) (HD.out.tab.below hW) (HD.out.pay.below hW) (s+32 * k) (cs k).cl (cs k).g (cs k).V p (cs k).bs Gk hC hp64);clear hC hd Gk hk;rw [if_pos rfl] at Ga;generalize blkR (s+32 * k) (cs k).cl (cs k).bs p=br at *;obtain ⟨bi,be⟩:=br;dsimp only at *;unfold chV memV at *;generalize s+32 * k=ln at *;generalize (cs k).cl=cl at *;generalize (cs k).g=g at *;go_wp2_with (go_at_call 195;refine Gi.out.mono ?_;rintro e w1 ⟨rfl,Ge⟩;refine stop ?_)
     unfold Stop;have Gb:=hid (Ge.alloc Ge.size (.cells #[.iface 58 (.pointer (some ⟨a.th 0,0,none⟩)),.int .i64 ln,.int .i64 cl,.int .i64 0,.int .u16 g] 306));have Gc:=hid (Gl.out _ Gb.out);have Gg:=hid (Gm.out _ Gb.out);have Gs:w1.cell? ⟨x.h,0,none⟩=some (.iface 58 (.pointer (some ⟨a.th 0,0,none⟩))):=(HD.out.hs.heap.below Ge HD.out.hs.heap.lt).cell 0;have Gt:x.h < w1.heap.size:=Nat.lt_of_lt_of_le HD.out.hs.heap.lt Ge.size;clear Ge Gi Gr Gm;by_cases hbe:be=0
     ·subst hbe
      rw [if_neg (fun hh=>hh rfl)] at Ga;by_cases hk0:kind=0
      ·subst hk0
       rw [if_neg (fun hh=>hh.1 rfl)] at Ga;go_wp2_with (first
        | (go_at_call 112;refine Gc.out.mono ?_;rintro e w2 ⟨rfl,rfl⟩)
        | (go_at_call 196;refine Gg.out.mono ?_;rintro e w2 ⟨rfl,Gf⟩;have Gh:=hid (Gb.out.trans (Gf.mono Gb.out.size));clear Gf))
       go_ret;exact ⟨by rw [Ga.out];rfl,Gh.out⟩
      ·obtain ⟨g1,g2,g3,g4⟩:=z4x hk0
       by_cases hkd:kind=z1t p
       ·have e1:((kind:Int) == (z1t p:Int))=true:=by rw [beq_iff_eq];omega
        rw [if_neg (fun hh=>hh.2 hkd)] at Ga;clear hkd;generalize z1t p=pk at *;go_wp2_with (first
         | (go_at_call 112;refine Gc.out.mono ?_;rintro e w2 ⟨rfl,rfl⟩)
         | (go_at_call 150;refine (Gp.out _).mono ?_;rintro e w3 ⟨rfl,rfl⟩)
         | (go_at_call 196;refine Gg.out.mono ?_;rintro e w2 ⟨rfl,Gf⟩;have Gh:=hid (Gb.out.trans (Gf.mono Gb.out.size));clear Gf))
        go_ret;exact ⟨by rw [Ga.out];rfl,Gh.out⟩
       ·have e1:((kind:Int) == (z1t p:Int))=false:=by rw [beq_eq_false_iff_ne];omega
        rw [if_pos ⟨hk0,hkd⟩] at Ga;clear hkd;generalize z1t p=pk at *;go_wp2_with (first
         | (go_at_call 112;refine Gc.out.mono ?_;rintro e w2 ⟨rfl,rfl⟩)
         | (go_at_call 150;refine (Gp.out _).mono ?_;rintro e w3 ⟨rfl,rfl⟩)
         | (go_at_call 196;refine Gg.out.mono ?_;rintro e w2 ⟨rfl,Gf⟩;have Gh:=hid (Gb.out.trans (Gf.mono Gb.out.size));clear Gf))
        go_ret;exact ⟨by rw [Ga.out];rfl,Gh.out⟩
     ·rw [if_pos hbe] at Ga
      obtain ⟨g1,g2,g3,g4⟩:=z4x hbe;clear hbe;go_wp2_with (first
       | (go_at_call 112;refine Gc.out.mono ?_;rintro e w2 ⟨rfl,rfl⟩)
       | (go_at_call 196;refine Gg.out.mono ?_;rintro e w2 ⟨rfl,Gf⟩;have Gh:=hid (Gb.out.trans (Gf.mono Gb.out.size));clear Gf))
      go_ret;exact ⟨by rw [Ga.out];rfl,Gh.out⟩
   ·rw [if_pos hpt] at Ga
    have q0:((p:Int) / 72057594037927936 == 0)=false:=by rw [beq_eq_false_iff_ne];omega
    clear hpt;generalize ((s+32 * k:Nat):Int)=v at *;go_wp2;go_ret;exact ⟨by rw [Ga.out];rfl,Gj.out⟩
end
end
section
open Go.RowKit Go.Maps
section
variable {a:DA} {L T s n K:Nat} {x:HA} {cs:Nat->CS} {f:Nat->Option Nat} {N m b0:Nat} {S:Fp} {cur:Nat->Nat} {w w':World} {cl k i:Nat}
theorem Vac.cls (hv:Vac s K cs f cl k i):offO s cs k i=blkO (s+32 * k) cl i:=by unfold offO;rw [hv.2.2.1]
theorem y4y {ln cl i j:Nat} (hi:i < perC cl) (hj:j < payW cl):(blkO ln cl i+8 * j) / 8=8 * ln+offB cl i+1+j/\8 * ln<=8 * ln+offB cl i+1+j/\8 * ln+offB cl i+1+j < 8 * ln+256/\¬ z9j ln cl (8 * ln+offB cl i+1+j):=by
 have h1:=off_lt hi;have h2:=z2h cl i;refine ⟨by unfold blkO;omega,oM,oM,x7e hi hj⟩
theorem DS.ok_pay (h:DS a L T s n K x cs f N m b0 S cur w) {cl i:Nat} (hk:k < K) (hd:(cs k).dv=true) (hc:(cs k).cl=cl) (hi:i < perC cl) {ws:List (Nat × Nat)} (hw:∀ e∈ws,∃ j,j < payW cl/\e.1=blkO (s+32 * k) cl i+8 * j) :
  ∀ k',k' < K->CSok (wrS cur ws) (s+32 * k') (cs k'):=fun k' hk'=>by
 refine (h.ok k' hk').same (fun y h1 h2 h3=>z2k ws _ _ (fun e he=>?_));obtain ⟨j,hj,Ga⟩:=hw e he;obtain ⟨p1,p2,p3,p4⟩:=y4y (ln:=s+32 * k) hi hj;rw [Ga,p1];intro hy;by_cases e1:k'=k
 ·subst e1
  have:=h3 hd;rw [hc,<- hy] at this;exact p4 this
 ·omega
theorem DS.zeroed {T':Nat} {S':Fp} (h:DS a L T s n K x cs f N m b0 S cur w) (hv:Vac s K cs f cl k i) (hd:Dev a L T' w' S' (wrS cur (zerW (offO s cs k i) (payW cl))) 0) (hc:Chg S w w') (hg:Grew S S' w) :
  DS a L T' s n K x cs f N m b0 S' (wrS cur (zerW (offO s cs k i) (payW cl))) w':=by
 refine h.dev_ hd hc hg ?_ (z5d _ _ h.bnd (fun e he=>by obtain ⟨j,_,rfl⟩:=z6n he;show 0 < _;omega));refine h.ok_pay hv.1 hv.2.1 hv.2.2.1 hv.2.2.2.1 (fun e he=>?_);obtain ⟨j,hj,rfl⟩:=z6n he;exact ⟨j,hj,by rw [hv.cls]⟩
theorem DS.vac_facts (h:DS a L T s n K x cs f N m b0 S cur w) (hv:Vac s K cs f cl k i) (kind:Nat) (hk8:kind < 128):cl < 5/\offO s cs k i % 8=0/\offO s cs k i+8 * payW cl<=64 * L/\pOff (fptr s cs kind k i)=offO s cs k i/\fptr s cs kind k i≠0/\fptr s cs kind k i < 18446744073709551616/\0 < ((cs k).bs i).gen/\((cs k).bs i).gen < 65536:=by
 obtain ⟨h1,h2,h3,h4,h5,h6⟩:=hv;have hC:=h.chw h1 h2;have hL:=h.hL;have Gd:=h.line h1;have ho:=Go.Proofs.YtfkjjoglnmeciaaGreatDoor.off_lt h4;have Gc:=(hC.inn i (by rw [h3];exact h4)).g;have Ga:=hC.good i (by rw [h3];exact h4);have Gb:0 < ((cs k).bs i).gen:=by unfold BK.good at Ga;rw [if_pos h5] at Ga;simp at Ga;omega
 have e1:offO s cs k i=64 * (s+32 * k)+8 * offB cl i+8:=by unfold offO blkO;rw [h3]
 refine ⟨by rw [<- h3];exact hC.cls,oM,oM,?_,?_,?_,Gb,Gc⟩
 ·exact z8i (by rw [show blkO (s+32 * k) (cs k).cl i=offO s cs k i from rfl];omega) (by rw [show blkO (s+32 * k) (cs k).cl i=offO s cs k i from rfl];omega)
 ·exact x8e Gb
 ·exact (x1s (by rw [show blkO (s+32 * k) (cs k).cl i=offO s cs k i from rfl];omega) Gc hk8).1
theorem z3f {Z:Fp} {b:Nat} (hg:w.grownBy w' (some b)) (hZ:Z b):Chg Z w w':=(Chg.refl Z w).grown hg (fun g e=>by injection e with e;subst e;exact .inl hZ)
theorem DS.rsv (h:DS a L T s n K x cs f N m b0 S cur w) (hv:Vac s K cs f cl k i) (kind:Nat) (_hk0:0 < kind) (hk8:kind < 128) (hN:N < maxLen) :
  ∃ (w7 w8:World) (c:Int),
   (Instr.mapUpdate 190 (.map (some x.mr)) (.int .u64 (offO s cs k i:Int)) (.int .u64 (fptr s cs kind k i:Int))).run Tryz.prog w.drew=.ok () w7 /\
   (Instr.lookup 191 (.map (some x.mh)) (.int .i64 ((s+32 * k:Nat):Int)) false).run Tryz.prog w7=.ok (.int .i64 c) w7 /\
   (Instr.mapUpdate 191 (.map (some x.mh)) (.int .i64 ((s+32 * k:Nat):Int)) (.int .i64 (wrap64 (c+1)))).run Tryz.prog w7=.ok () w8 /\
   Blk w7 x.h 194 (z3g a s n x.gs x.mr x.mh false)/\Blk w8 x.h 194 (z3g a s n x.gs x.mr x.mh false)/\Plc a s K x.p cs w8 /\
   ∀ w9,Plc a s K x.p cs w9->Chg (fun j=>j=x.pl) w8 w9->DS a L T s n K x cs (updF f (offO s cs k i) (some (fptr s cs kind k i))) (N+1) (m+1) b0 S cur w9/\Chg x.fp w w9:=by
 obtain ⟨q1,q2,q3,q4,q5,q6,q7,q8⟩:=h.vac_facts hv kind hk8;obtain ⟨n1,n2,n3,n4,n5,n6,n7,n8⟩:=h.hs.pl_ne;have Gc:=h.few;have Gd:=hv.1;have hd:Chg Fp.no w w.drew:=(Chg.refl _ _).drew;have hs:=h.hs.chg hd (fun h=>h) (fun h=>h) (fun h=>h) (fun h=>h) (fun h=>h);obtain ⟨w7,r7,p7,g7⟩:=hs.res.put hN (show offO s cs k i < 18446744073709551616 by have:=h.hL;omega) q6 hv.2.2.2.2.2;have c7:Chg (fun j=>j=x.mr) w.drew w7:=z3f g7 rfl;have Gb:=hs.held.chg c7 (fun e=>hs.ne e.symm);obtain ⟨c,r8,Ge⟩:=Gb.look (x:=s+32 * k) oM;obtain ⟨w8,r9,p8,g8⟩:=Gb.put hN (x:=s+32 * k) oM (wrap64_wf (c+1));have c8:Chg (fun j=>j=x.mh) w7 w8:=z3f g8 rfl;have b7:=c7.blk hs.heap n5;have b8:=c8.blk b7 n6;have l7:=hs.plc.chg c7 n3 n1;have l8:=l7.chg c8 n4 n2;refine ⟨w7,w8,c,r7,r8,r9,b7,b8,l8,fun w9 l9 c9=>?_⟩;have Ga:Chg x.fp w w9:=((((Chg.refl x.fp w).drew).trans (S':=fun j=>j=x.mr) c7 (fun j hj => .inl (.inr (.inl hj)))).trans (S':=fun j=>j=x.mh) c8 (fun j hj => .inl (.inr (.inr hj)))).trans (S':=fun j=>j=x.pl) c9 (fun j hj => .inl (.inl hj));refine ⟨h.own_ ⟨c9.blk b8 n8,l9,(p7.chg c8 h.hs.ne).chg c9 (fun e=>n1 e.symm),p8.chg c9 (fun e=>n2 e.symm),h.hs.ne⟩ Ga h.ok ?_,Ga⟩;intro o p hop;unfold updF at hop;split at hop
 ·rename_i ho
  injection hop with hp
  subst ho;exact ⟨k,i,Gd,hv.2.1,by rw [hv.2.2.1];exact hv.2.2.2.1,rfl,by rw [<- hp];exact q4⟩
 ·exact h.res o p hop
end
end
section
open Go.RowKit Go.Maps
section
variable {a:DA} {L T s n K:Nat} {x:HA} {cs:Nat->CS} {f:Nat->Option Nat} {N m b0:Nat} {S:Fp} {cur:Nat->Nat} {w w':World}
theorem y2q (h:DS a L T s n K x cs f N m b0 S cur w) {k i:Nat} (hk:k < K) (hd:(cs k).dv=true) (hi:i < perC (cs k).cl) (p:Nat) (hpo:pOff p=offO s cs k i) :
  Calls Tryz.prog 237 #[.pointer (some ⟨x.h,0,none⟩),.int .u64 p] w fun e w'=>e=.returned (.tuple #[.int .i64 ((s+32 * k:Nat):Int),.int .i64 i,.int .i64 ((cs k).cl:Int)])/\Blw w w':=by
 have hC:=h.chw hk hd;have G2:=h.line hk;have hL:=h.hL;have HD:=hid h;have Gh:Hid (∀ W,Calls Tryz.prog 135 #[.int .u64 p] W fun e w'=>e=.returned (.int .u64 (offO s cs k i:Int))/\W=w'):=hid (fun W=>by have h2:=z4y p W;rw [hpo] at h2;exact h2);have Gp:z3m s K (offO s cs k i)=some k:=z8b hk hi;have Gf:=hid (h.home p w (Below.refl _ _));rw [hpo] at Gf;have Gg:=hid Gp;have Gl:=hid (z3q h.dev h.tab h.pay (s+32 * k) (cs k).cl (cs k).g G2 hC.cls hC.g0 hC.g1 hC.hdr);have Ge:Hid (∀ W,Blw w W->Calls Tryz.prog 208 #[chV a (s+32 * k) (cs k).cl 0 (cs k).g] W fun e w'=>e=.returned (.int .i64 ((cs k).cl:Int))/\Blw W w'):=hid (fun W _=>z6t a _ _ _ _ W);have Gn:=x6t hi;have Gk:Hid (∀ W,Blw w W->Calls Tryz.prog 314 #[.int .i64 ((cs k).cl:Int),.int .i64 ((offB (cs k).cl i+1:Nat):Int)] W fun e w'=>e=.returned (.tuple #[.int .i64 i,.bool true])/\W=w'):=hid (fun W hW=>by
  have h1:=y3i (cs k).cl (offB (cs k).cl i+1) hC.cls (by have:=off_lt hi;omega) W (h.pay.below hW);unfold z9h at h1;rw [Gn] at h1;exact h1)
 have G3:w.cell? ⟨x.h,0,none⟩=some (.iface 58 (.pointer (some ⟨a.th 0,0,none⟩))):=h.hs.heap.cell 0;have ho:=off_lt hi;have Gq:offO s cs k i=64 * (s+32 * k)+8 * offB (cs k).cl i+8:=rfl;have G9:=z2h (cs k).cl i;clear h hC hpo Gp hd Gn;have HE:Hid (s+32 * k=s+32 * k):=hid rfl;generalize hlne:s+32 * k=ln at *;have Gu:=hid hlne;clear hlne HE;have u1:IntKind.u64.wrap (ln:Int)=(ln:Int):=by rw [IntKind.wrap_u64];omega
 have u2:IntKind.u64.wrap ((ln:Int) * 64)=(ln:Int) * 64:=by rw [IntKind.wrap_u64];omega
 obtain ⟨y,hy⟩:∃ y,8 * offB (cs k).cl i+8=y:=⟨_,rfl⟩
 have u3:IntKind.u64.wrap ((offO s cs k i:Int) - (ln:Int) * 64)=(y:Int):=by rw [IntKind.wrap_u64,Gq];omega
 have u4:(y:Int) / 8=((offB (cs k).cl i+1:Nat):Int):=oM;have u5:IntKind.i64.wrap ((offB (cs k).cl i+1:Nat):Int)=((offB (cs k).cl i+1:Nat):Int):=IntWalk.i64_in _ oM;have uq:IntKind.u64.wrap ((offB (cs k).cl i+1:Nat):Int)=((offB (cs k).cl i+1:Nat):Int):=by rw [IntKind.wrap_u64];omega
 have hq:((offB (cs k).cl i+1:Nat):Int)<=256:=oM;clear Gq hy;generalize offB (cs k).cl i+1=q at *;generalize offO s cs k i=o at *;unfold chV memV at *;generalize (cs k).cl=cl at *;generalize (cs k).g=g at *;go_enter Tryz.func237,Tryz.ntmps237
 go_wp2_with (first
  | (go_at_call 135;refine (Gh.out _).mono ?_;rintro e w1 ⟨rfl,rfl⟩)
  | (go_at_call 194;refine Gf.out.mono ?_;rintro e w1 ⟨l1,b1,rfl,hP,rfl⟩;refine stop ?_))
 unfold Stop;have G1:l1=ln/\b1=true:=by
  rcases hP with ⟨h1,_,_⟩ | ⟨k',h1,_,h3,h4⟩
  ·rw [Gg.out] at h1;cases h1
  ·rw [Gg.out] at h1
   injection h1 with h1
   subst h1;exact ⟨by rw [h3];exact Gu.out,h4⟩
 obtain ⟨rfl,rfl⟩:=G1;clear hP Gg Gf;go_wp2_with (go_at_call 195;refine Gl.out.mono ?_;rintro e w1 ⟨rfl,Gi⟩;refine stop ?_)
 unfold Stop;have Gd:=hid (Gi.alloc Gi.size (.cells #[.iface 58 (.pointer (some ⟨a.th 0,0,none⟩)),.int .i64 l1,.int .i64 cl,.int .i64 0,.int .u16 g] 306));have Ga:=hid (Blk.new w1 306 #[.iface 58 (.pointer (some ⟨a.th 0,0,none⟩)),.int .i64 l1,.int .i64 cl,.int .i64 0,.int .u16 g]);clear Gi Gl G3;generalize hW1:w1.alloc (.cells #[.iface 58 (.pointer (some ⟨a.th 0,0,none⟩)),.int .i64 l1,.int .i64 cl,.int .i64 0,.int .u16 g] 306)=W1 at *;have Gv:=hid hW1.symm;clear hW1;have Gw:W1.cell? ⟨w1.heap.size,0,none⟩=some (.iface 58 (.pointer (some ⟨a.th 0,0,none⟩))):=Ga.out.cell 0;have Gx:W1.cell? ⟨w1.heap.size,1,none⟩=some (.int .i64 l1):=Ga.out.cell 1;have Gy:W1.cell? ⟨w1.heap.size,2,none⟩=some (.int .i64 cl):=Ga.out.cell 2;have Gz:W1.cell? ⟨w1.heap.size,3,none⟩=some (.int .i64 0):=Ga.out.cell 3;have G0:W1.cell? ⟨w1.heap.size,4,none⟩=some (.int .u16 g):=Ga.out.cell 4;go_wp2_with (first
  | (go_at_call 135;refine (Gh.out _).mono ?_;rintro e w1 ⟨rfl,rfl⟩)
  | (go_at_call 208;refine stop ?_))
 unfold Stop;rw [<- Gv.out];refine (Ge.out W1 Gd.out).mono ?_;rintro e W2 ⟨rfl,Gj⟩;have Gc:=hid (Gd.out.trans (Gj.mono Gd.out.size));have Gb:=hid (Ga.out.below Gj Ga.out.lt);have Gt:=hid (Gk.out W2 Gc.out);have Gs:=hid (Ge.out W2 Gc.out);have G4:W2.cell? ⟨w1.heap.size,0,none⟩=some (.iface 58 (.pointer (some ⟨a.th 0,0,none⟩))):=Gb.out.cell 0;have G5:W2.cell? ⟨w1.heap.size,1,none⟩=some (.int .i64 l1):=Gb.out.cell 1;have G6:W2.cell? ⟨w1.heap.size,2,none⟩=some (.int .i64 cl):=Gb.out.cell 2;have G7:W2.cell? ⟨w1.heap.size,3,none⟩=some (.int .i64 0):=Gb.out.cell 3;have G8:W2.cell? ⟨w1.heap.size,4,none⟩=some (.int .u16 g):=Gb.out.cell 4;clear Gj Gw Gx Gy Gz G0 Ge Gk Gh;go_wp2_with (first
  | (go_at_call 314;refine Gt.out.mono ?_;rintro e w3 ⟨rfl,rfl⟩)
  | (go_at_call 208;refine Gs.out.mono ?_;rintro e W3 ⟨rfl,Gm⟩;have Gr:=hid (Gc.out.trans (Gm.mono Gc.out.size));clear Gm))
 go_ret3
 exact ⟨rfl,Gr.out⟩
end
end
section
open Go.RowKit Go.Maps
structure z9g (s K:Nat) (cs:Nat->CS) (f:Nat->Option Nat) (cur:Nat->Nat) (cl:Nat) (cs':Nat->CS) (cur':Nat->Nat) (k i:Nat):Prop where
 vac:Vac s K cs' f cl k i
 how:(cs'=cs/\cur'=wrS cur (zerW (offO s cs' k i) (payW cl)))\/∃ k0,k0 < K/\(cs k0).dv=false/\(∀ k i,¬ Vac s K cs f cl k i)/\cs'=updC cs k0 (newC cl (cs k0).g)/\cur'=wrS (fmtR cur (s+32 * k0) cl (cs k0).g) (zerW (offO s cs' k i) (payW cl))
def w3t (a:DA) (L T s n K:Nat) (x:HA) (cs:Nat->CS) (f:Nat->Option Nat) (N m b0:Nat) (S:Fp) (cur:Nat->Nat) (w:World) (cl kind:Nat) (e:Ending) (w':World):Prop :=
 ∃ k i S' cs' cur',e=.returned (.tuple #[.int .u64 (fptr s cs' kind k i:Int),.int .i64 0])/\z9g s K cs f cur cl cs' cur' k i/\DS a L (T+400) s n K x cs' (updF f (offO s cs' k i) (some (fptr s cs' kind k i))) (N+1) (m+1) b0 S' cur' w'/\Chg (fun j=>S j\/x.fp j) w w'/\Grew S S' w
section
theorem z7d (n kind:Nat) (h1:1<=n) (h60:n<=60) (hk0:0 < kind) (hk8:kind < 128) (w:World) :
  Calls Tryz.prog 345 #[.int .i64 0,.int .i64 n,.int .u8 kind] w fun e w'=>e=.returned (.int .i64 0)/\w=w':=by
 have d1:decide ((n:Int) < 1)=false:=dF;have d2:decide ((60:Int) < (n:Int))=false:=dF;have d3:((kind:Int) == 0)=false:=by rw [beq_eq_false_iff_ne];omega
 have d4:decide ((127:Int) < (kind:Int))=false:=dF;go_enter Tryz.func345,Tryz.ntmps345
 go_wp2;go_ret;exact ⟨rfl,rfl⟩
variable {a:DA} {L T s n K:Nat} {x:HA} {cs:Nat->CS} {f:Nat->Option Nat} {N m b0:Nat} {S:Fp} {cur:Nat->Nat} {w w':World}
theorem y0i {T':Nat} {S':Fp} {cur':Nat->Nat} {cl k:Nat} (h:DS a L T s n K x cs f N m b0 S cur w) (hk:k < K) (hd:(cs k).dv=false) (i:Nat) (hi:i < perC cl) (hc:cl < 5):f (offO s (updC cs k (newC cl (cs k).g)) k i)=none:=by
 cases hf:f (offO s (updC cs k (newC cl (cs k).g)) k i) with
 | none=>rfl
 | some p =>
  exfalso
  obtain ⟨j,i',hj,Ga,Gb,ho,_⟩:=h.res _ p hf;have Gd:j≠k:=fun e=>by rw [e,hd] at Ga;cases Ga
  have e:(updC cs k (newC cl (cs k).g) k)=newC cl (cs k).g:=by unfold updC;rw [if_pos rfl]
  unfold offO at ho;rw [e] at ho;have h1:=off_lt hi;have h2:=off_lt Gb;have h3:=z2h cl i;have h4:=z2h (cs j).cl i';have Gc:blkO (s+32 * k) cl i=blkO (s+32 * j) (cs j).cl i':=ho;unfold blkO at Gc;omega
theorem x0c (h:DS a L T s n K x cs f N m b0 S cur w) (nw kind:Nat) (h1:1<=nw) (h60:nw<=60) (hk0:0 < kind) (hk8:kind < 128) (hN:N < 1000000000) (hT:T+400<=1000000000)
  (hcap:(∃ k i,Vac s K cs f (z1e nw) k i)\/∃ k,k < K/\(cs k).dv=false) :
  Calls Tryz.prog 291 #[.pointer (some ⟨x.h,0,none⟩),.int .i64 0,.int .i64 nw,.int .u8 kind] w (w3t a L T s n K x cs f N m b0 S cur w (z1e nw) kind):=by
 have G5:=hid (z7d nw kind h1 h60 hk0 hk8 w);have G8:=hid (z9l h.dev);have G7:=hid (y6c nw h1 h60 w h.pay);have GA:=hid (x4s h (z1e nw) kind hk0 hk8);have hm:=z1z (some ⟨a.th 0,0,none⟩);have HD:=hid h;have Ga:=hid (show 0 < kind/\kind < 128/\N < maxLen/\T+400<=1000000000/\z1e nw < 5 from ⟨hk0,hk8,by unfold maxLen;omega,hT,z7g nw⟩);have Gy:=hid hcap;have Gw:w.cell? ⟨x.h,0,none⟩=some (.iface 58 (.pointer (some ⟨a.th 0,0,none⟩))):=h.hs.heap.cell 0;have GJ:(0:Int)<=((z1e nw:Nat):Int):=oM;clear h hcap hk0 hk8 hN hT h1 h60;unfold w3t;generalize z1e nw=cl at *;go_enter Tryz.func291,Tryz.ntmps291
 go_wp2_with (first
  | (go_at_call 345;refine G5.out.mono ?_;rintro e w1 ⟨rfl,rfl⟩)
  | (go_at_call 112;refine G8.out.mono ?_;rintro e w1 ⟨rfl,rfl⟩)
  | (go_at_call 201;refine G7.out.mono ?_;rintro e w1 ⟨rfl,rfl⟩)
  | (go_at_call 346;refine GA.out.mono ?_;rintro e w2 ⟨v,rfl,hP,GB⟩;refine stop ?_))
 unfold Stop;have Gm:=hid GB;clear GB G5 G8 G7 GA Gw;rcases hP with ⟨rfl,hno⟩ | ⟨k,i,hv,rfl⟩
 ·have hf:∃ k,k < K/\(cs k).dv=false:=Gy.out.elim (fun ⟨k,i,hv⟩=>absurd hv (hno k i)) id
  have GF:=hid (HD.out.below Gm.out);have Gz:=hid (x3k GF.out cl Ga.out.2.2.2.2 hf (by have:=Ga.out.2.2.2.1;omega));have GH:=hid hno;clear hf hno;unfold z7b at Gz;go_wp2_with (go_at_call 347;refine Gz.out.mono ?_;rintro e w3 ⟨k0,S3,hk0,G4,rfl,Gk,GC,GE⟩;generalize hv0:((s+32 * k0:Nat):Int)=v0 at *;refine stop ?_)
  unfold Stop;have GG:=hid Gk;have G6:=hid (show Chg (fun j=>S j\/x.fp j) w2 w3/\Grew S S3 w2 from ⟨GC,GE⟩);have G0:=hid (show k0 < K/\(cs k0).dv=false from ⟨hk0,G4⟩);have GD:(updC cs k0 (newC cl (cs k0).g) k0).dv=true:=by unfold updC;rw [if_pos rfl];rfl
  have G2:=hid (y3n Gk hk0 GD kind Ga.out.1 Ga.out.2.1);have G9:Hid (f (offO s (updC cs k0 (newC cl (cs k0).g)) k0 0)=none):=hid (y0i (T':=T) (S':=S) (cur':=cur) HD.out hk0 G4 0 (by have:=z2u cl;omega) Ga.out.2.2.2.2);clear Gk GC GE hk0 G4 GD Gz;have GI:=hid hv0;rw [hv0] at G2;clear hv0;go_wp2_with (go_at_call 348;refine G2.out.mono ?_;rintro e w5 ⟨v,rfl,hP,G3⟩;refine stop ?_)
  unfold Stop;have Gb:=hid (GG.out.below G3);have Gf:Hid (Chg (fun j=>S j\/x.fp j) w w5/\Grew S S3 w):=hid ⟨((Chg.of_below Gm.out).trans (S':=fun j=>S j\/x.fp j) G6.out.1 (Grew.refl _ _)).below G3,fun j hj=>(G6.out.2 j hj).imp id (fun h=>Nat.le_trans Gm.out.size h)⟩;clear G3 G2;rcases hP with ⟨rfl,hnone⟩ | ⟨i,hi,hst,hfi,rfl⟩
  ·exfalso
   refine hnone 0 ?_ ?_ G9.out
   ·have e:(updC cs k0 (newC cl (cs k0).g) k0).cl=cl:=by unfold updC;rw [if_pos rfl];rfl
    rw [e];have:=z2u cl;omega
   ·unfold updC;rw [if_pos rfl];rfl
  ·have Gi:Vac s K (updC cs k0 (newC cl (cs k0).g)) f cl k0 i:=by
    have e1:updC cs k0 (newC cl (cs k0).g) k0=newC cl (cs k0).g:=by unfold updC;rw [if_pos rfl]
    rw [e1] at hi hst;exact ⟨G0.out.1,by rw [e1];rfl,by rw [e1];rfl,hi,by rw [e1];exact hst,hfi⟩
   clear hi hst hfi G9;have Gv:=GI.out;generalize hcs5:updC cs k0 (newC cl (cs k0).g)=cs5 at *;have Gx:=hid hcs5;clear hcs5;have Gh:=hid Gi;obtain ⟨q1,q2,q3,q4,q5,q6,q7,q8⟩:=Gb.out.vac_facts Gi kind Ga.out.2.1;have Gt:=hid (x2o Gb.out.dev Gb.out.pay x.h _ Gb.out.hs.heap rfl Gb.out.off.1 (fptr s cs5 kind k0 i) cl (offO s cs5 k0 i) q1 q5 q4 q3 (by have:=Ga.out.2.2.2.1;omega));have G1:Hid (∀ W,Calls Tryz.prog 135 #[.int .u64 (fptr s cs5 kind k0 i:Int)] W fun e w'=>e=.returned (.int .u64 (offO s cs5 k0 i:Int))/\W=w'):=hid (fun W=>by have h2:=z4y (fptr s cs5 kind k0 i) W;rw [q4] at h2;exact h2);have Gs:Hid (∀ w6 S6,Dev a L ((T+200)+200) w6 S6 (wrS (fmtR cur (s+32 * k0) cl (cs k0).g) (zerW (offO s cs5 k0 i) (payW cl))) 0->Chg S3 w5 w6->Grew S3 S6 w5->DS a L ((T+200)+200) s n K x cs5 f N m b0 S6 (wrS (fmtR cur (s+32 * k0) cl (cs k0).g) (zerW (offO s cs5 k0 i) (payW cl))) w6):=hid (fun w6 S6 hd hc hg=>Gb.out.zeroed Gi hd hc hg);have Gw:w5.cell? ⟨x.h,0,none⟩=some (.iface 58 (.pointer (some ⟨a.th 0,0,none⟩))):=Gb.out.hs.heap.cell 0;clear q1 q2 q3 q4 q5 q6 q7 q8 Gi;generalize hfp:fptr s cs5 kind k0 i=fp at *;generalize hof:offO s cs5 k0 i=o at *;rw [<- Gv];clear Gv;generalize hvv:((s+32 * k0:Nat):Int)=v at *;have Gp:=hid hfp;have Gq:=hid hof;have Gr:=hid hvv;clear hfp hof hvv;go_wp2_with (go_at_call 349;refine Gt.out.mono ?_;rintro e w6 ⟨rfl,S6,Gu,Gj,Gl⟩;refine stop ?_)
   unfold Stop;have Gg:=hid (Gs.out w6 S6 Gu Gj Gl);have Gn:=hid (show Chg S3 w5 w6/\Grew S3 S6 w5 from ⟨Gj,Gl⟩);obtain ⟨w7,w8,c,r7,r8,r9,b7,b8,l8,Ge⟩:=Gg.out.rsv Gh.out kind Ga.out.1 Ga.out.2.1 Ga.out.2.2.1;rw [Gq.out,Gp.out] at r7;rw [Gr.out] at r8 r9;have Gc:=hid Ge;have Gd:=hid (y0o l8 Gg.out.few.1 (by have:=Gg.out.few.2;omega) Gh.out.1 Gh.out.2.1 true);rw [Gr.out] at Gd;unfold HA.p y3r at Gd;dsimp only at Gd;have y4:w6.cell? ⟨x.h,4,none⟩=some (.map (some x.mr)):=Gg.out.hs.heap.cell 4;have y5:w7.cell? ⟨x.h,5,none⟩=some (.map (some x.mh)):=b7.cell 5;have y3:w8.cell? ⟨x.h,3,none⟩=some (.pointer (some ⟨x.gs,0,none⟩)):=b8.cell 3;clear Gu Gj Gl Ge b7 b8 l8 Gt Gs Gw;go_wp2_with fail
   go_region_with (go_at_call 135;refine (G1.out _).mono ?_;rintro e w1 ⟨rfl,rfl⟩)
   all_goals
    go_wp2_with (go_at_call 320;refine Gd.out.mono ?_;rintro e w9 ⟨rfl,l9,c9⟩;refine stop ?_)
    unfold Stop;have HE:=hid (Gc.out w9 l9 c9);clear l9 c9 Gd Gc r7 r8 r9 y3 y4 y5;go_wp2;go_ret2;refine ⟨k0,i,S6,_,_,by rw [Gp.out];rfl,⟨Gh.out,.inr ⟨k0,G0.out.1,G0.out.2,GH.out,Gx.out.symm,by rw [Gq.out]⟩⟩,HE.out.1.more oM Ga.out.2.2.2.1,?_,?_⟩
    ·exact (Gf.out.1.trans (S':=S3) Gn.out.1 (fun j hj=>(Gf.out.2 j hj).imp .inl id)).trans (S':=x.fp) HE.out.2 (fun j hj => .inl (.inr hj))
    ·exact Gf.out.2.trans Gn.out.2 Gf.out.1.size
 ·have Gi:=hv
  clear hv;have Gb:=hid (HD.out.below Gm.out);have Gf:Hid (Chg (fun j=>S j\/x.fp j) w w2/\Grew S S w):=hid ⟨Chg.of_below Gm.out,Grew.refl _ _⟩;have Gh:=hid Gi;obtain ⟨q1,q2,q3,q4,q5,q6,q7,q8⟩:=Gb.out.vac_facts Gi kind Ga.out.2.1;have Gt:=hid (x2o Gb.out.dev Gb.out.pay x.h _ Gb.out.hs.heap rfl Gb.out.off.1 (fptr s cs kind k i) cl (offO s cs k i) q1 q5 q4 q3 (by have:=Ga.out.2.2.2.1;omega));have G1:Hid (∀ W,Calls Tryz.prog 135 #[.int .u64 (fptr s cs kind k i:Int)] W fun e w'=>e=.returned (.int .u64 (offO s cs k i:Int))/\W=w'):=hid (fun W=>by have h2:=z4y (fptr s cs kind k i) W;rw [q4] at h2;exact h2);have Gs:Hid (∀ w6 S6,Dev a L (T+200) w6 S6 (wrS cur (zerW (offO s cs k i) (payW cl))) 0->Chg S w2 w6->Grew S S6 w2->DS a L (T+200) s n K x cs f N m b0 S6 (wrS cur (zerW (offO s cs k i) (payW cl))) w6):=hid (fun w6 S6 hd hc hg=>Gb.out.zeroed Gi hd hc hg);have Gw:w2.cell? ⟨x.h,0,none⟩=some (.iface 58 (.pointer (some ⟨a.th 0,0,none⟩))):=Gb.out.hs.heap.cell 0;clear q1 q2 q3 q4 q5 q6 q7 q8 Gi;generalize hfp:fptr s cs kind k i=fp at *;generalize hof:offO s cs k i=o at *;generalize hvv:((s+32 * k:Nat):Int)=v at *;have Gp:=hid hfp;have Gq:=hid hof;have Gr:=hid hvv;clear hfp hof hvv;go_wp2_with (go_at_call 349;refine Gt.out.mono ?_;rintro e w6 ⟨rfl,S6,Gu,Gj,Gl⟩;refine stop ?_)
  unfold Stop;have Gg:=hid (Gs.out w6 S6 Gu Gj Gl);have Gn:=hid (show Chg S w2 w6/\Grew S S6 w2 from ⟨Gj,Gl⟩);obtain ⟨w7,w8,c,r7,r8,r9,b7,b8,l8,Ge⟩:=Gg.out.rsv Gh.out kind Ga.out.1 Ga.out.2.1 Ga.out.2.2.1;rw [Gq.out,Gp.out] at r7;rw [Gr.out] at r8 r9;have Gc:=hid Ge;have Gd:=hid (y0o l8 Gg.out.few.1 (by have:=Gg.out.few.2;omega) Gh.out.1 Gh.out.2.1 true);rw [Gr.out] at Gd;unfold HA.p y3r at Gd;dsimp only at Gd;have y4:w6.cell? ⟨x.h,4,none⟩=some (.map (some x.mr)):=Gg.out.hs.heap.cell 4;have y5:w7.cell? ⟨x.h,5,none⟩=some (.map (some x.mh)):=b7.cell 5;have y3:w8.cell? ⟨x.h,3,none⟩=some (.pointer (some ⟨x.gs,0,none⟩)):=b8.cell 3;clear Gu Gj Gl Ge b7 b8 l8 Gt Gs Gw;go_wp2_with fail
  go_region_with (go_at_call 135;refine (G1.out _).mono ?_;rintro e w1 ⟨rfl,rfl⟩)
  all_goals
   go_wp2_with (go_at_call 320;refine Gd.out.mono ?_;rintro e w9 ⟨rfl,l9,c9⟩;refine stop ?_)
   unfold Stop;have HE:=hid (Gc.out w9 l9 c9);clear l9 c9 Gd Gc r7 r8 r9 y3 y4 y5;go_wp2;go_ret2;refine ⟨k,i,S6,_,_,by rw [Gp.out];rfl,⟨Gh.out,.inl ⟨rfl,by rw [Gq.out]⟩⟩,HE.out.1.more oM Ga.out.2.2.2.1,?_,?_⟩
   ·exact (Gf.out.1.trans (S':=S) Gn.out.1 (fun j hj=>(Gf.out.2 j hj).imp .inl id)).trans (S':=x.fp) HE.out.2 (fun j hj => .inl (.inr hj))
   ·exact Gf.out.2.trans Gn.out.2 Gf.out.1.size
end
end
section
open Go.RowKit
def z2m (s:Nat) (cs:Nat->CS) (k:Nat):List Value:=(List.range k).flatMap fun j=>[.int .i64 ((s+32 * j:Nat):Int),.int .i64 (cs j).cls,.int .i64 (cs j).own,.bool false]
theorem z5a (s:Nat) (cs:Nat->CS) (k:Nat):z2m s cs (k+1)=z2m s cs k++[.int .i64 ((s+32 * k:Nat):Int),.int .i64 (cs k).cls,.int .i64 (cs k).own,.bool false]:=by simp [z2m,List.range_succ]
theorem y1d (s:Nat) (cs:Nat->CS):∀ (n k:Nat),k < n->(z2m s cs n)[k * 4]?=some (.int .i64 ((s+32 * k:Nat):Int))/\(z2m s cs n)[k * 4+1]?=some (.int .i64 (cs k).cls)/\(z2m s cs n)[k * 4+2]?=some (.int .i64 (cs k).own)/\(z2m s cs n)[k * 4+3]?=some (.bool false)
 | n+1,k,h=>by
  have hl:(z2m s cs n).length=n * 4:=by
   clear h;induction n with
   | zero=>rfl
   | succ n ih=>rw [z5a,List.length_append,ih];simp;omega
  rw [z5a];by_cases hk:k < n
  ·obtain ⟨h0,h1,h2,h3⟩:=y1d s cs n k hk
   refine ⟨?_,?_,?_,?_⟩ <;> rw [List.getElem?_append_left oM] <;> assumption
  ·obtain rfl:k=n:=oM
   refine ⟨?_,?_,?_,?_⟩ <;> rw [List.getElem?_append_right oM,hl] <;> simp
def w3w (a:DA) (s:Nat) (cs:Nat->CS) (k:Nat) (w:World) (base g:Nat):Prop:=∃ A m c,Blk w g 406 #[memV a,.slice A m c]/\m=k/\w.ownsRow base 408 4 (.slice A m c) m (z2m s cs k)
def w6n (v1 v2:Int) (w w1:World) (A:Option Addr) (m c:Nat) (w':World):Prop:=w'.cell? ⟨w.heap.size,1,none⟩=some (.slice A m c)/\w'.cell? ⟨w1.heap.size,0,none⟩=some (.int .i64 v1)/\w'.cell? ⟨w1.heap.size,1,none⟩=some (.int .i64 v2)
structure w4h (a:DA) (w wr:World) (s:Nat) (cs:Nat->CS) (k:Nat) (A:Option Addr) (m c:Nat):Prop where
 below:Blw w wr
 set_:Blk wr w.heap.size 406 #[memV a,.slice A m c]
 own:wr.ownsRow (w.heap.size+1) 408 4 (.slice A m c) m (z2m s cs k)
 hm:m=k
theorem w5q {a:DA} {L T:Nat} {w:World} {S:Fp} {cur:Nat->Nat} {F:Nat} (h:Dev a L T w S cur F) (ht:Tab w) (hp:Pay w) (c:Nat) (hc:c+32<=L) {k:CS} (hk:CSok cur c k) :
  Calls Tryz.prog 293 #[memV a,.int .i64 c] w fun e w'=>e=.returned (.tuple #[.agg #[.int .i64 k.cls,.int .i64 k.own,.int .u16 k.g],.int .i64 0])/\Blw w w':=by
 unfold CSok at hk;unfold CS.cls CS.own;by_cases hd:k.dv=true
 ·rw [if_pos hd] at hk
  rw [if_pos hd,if_pos hd];exact x1n h ht hp c k.cl k.g hc hk.cls hk.g0 hk.g1 hk.hdr
 ·rw [if_neg hd] at hk
  rw [if_neg hd,if_neg hd];exact z8e h ht c k.g hc hk.2.1 hk.2.2 hk.1
theorem y1r {a:DA} {L T:Nat} {w:World} {S:Fp} {cur:Nat->Nat} {F:Nat} (cs:Nat->CS) (h:Dev a L T w S cur F) (ht:Tab w) (hp:Pay w) (s n K:Nat) (hn:32<=n) (hs:s+n<=L) (hK:n / 32=K) (hv:∀ k,k < K->CSok cur (s+32 * k) (cs k)) :
  Calls Tryz.prog 288 #[memV a,.int .i64 s,.int .i64 n] w fun e w'=>e=.returned (.tuple #[.pointer (some ⟨w.heap.size,0,none⟩),.int .i64 0])/\w3w a s cs K w' (w.heap.size+1) w.heap.size/\Blw w w':=by
 have HV:=hid (z6p h s n hn hs);have HD:=hid h;have HT:=hid ht;have G2:=hid hp;have G4:=hid hv;obtain ⟨i0,G6,G8,G9,GA⟩:=info_parts x7i;have Gp:Hid (w4h a w (w.alloc (.cells #[memV a,.slice none 0 0] 406)) s cs 0 none 0 0):=⟨(Below.refl _ _).alloc (nL _) _,Blk.new _ _ _,World.ownsRow_nil _ _ _ _,rfl⟩
 obtain ⟨ls,GC,GG,GB,GF,Gk,G7⟩:=h;have hL:=Gk.hL;obtain ⟨f0,_,_,_,g2⟩:=Gk.facts (j:=0) oM;have GD:=z1z (some ⟨a.th 0,0,none⟩);have d2:(n:Int).tdiv 32=(K:Int):=by rw [Int.tdiv_eq_ediv_of_nonneg oM];omega
 have d3:(n:Int) / 32=(K:Int):=oM;have G5:K * 32<=n:=oM;clear Gk G7 ht hp hK hv;unfold memV at *;go_enter Tryz.func288,Tryz.ntmps288
 go_wp2_with (first
  | (go_at_call 283;refine HV.out.mono ?_;rintro e w1 ⟨rfl,rfl⟩)
  | go_in)
 clear f0 g2 HV;go_loopw [29] (fun i wr=>∃ (k:Nat) (A:Option Addr) (m c:Nat),k<=K/\i=.int .i64 k/\Hid (w4h a w wr s cs k A m c)) (fun i _=>K - (RowKit.intOf i).toNat)
 case atStart=>exact ⟨0,_,_,_,Nat.zero_le _,rfl,Gp⟩
 case round =>
  clear Gp;obtain ⟨k,A,m,c,hk,rfl,H⟩:=hrel;by_cases hlt:k < K
  ·have Gh:=hid (w5q (HD.out.below H.out.below) (HT.out.below H.out.below) (G2.out.below H.out.below) (s+32 * k) oM (G4.out k hlt))
   obtain ⟨v1,Gl⟩:∃ v1,(cs k).cls=v1:=⟨_,rfl⟩
   obtain ⟨v2,Gm⟩:∃ v2,(cs k).own=v2:=⟨_,rfl⟩
   obtain ⟨v3,Gv⟩:∃ v3,(cs k).g=v3:=⟨_,rfl⟩
   have Gb:=hid (And.intro Gl Gm);have e7:((s+32 * k:Nat):Int)=(s:Int)+(k:Int) * 32:=oM;rw [e7,Gl,Gm,Gv] at Gh;clear Gl Gm Gv;unfold memV at Gh;have hz:(s:Int)+(k:Int) * 32<=4096:=oM;go_wp2_with (first
    | (go_at_call 293;refine Gh.out.mono ?_;rintro e w1 ⟨rfl,Gu⟩;have Gc:=hid Gu;clear Gu)
    | go_in)
   have Gg:=hid ((H.out.set_.below Gc.out H.out.set_.lt).alloc (.cells #[.int .i64 v1,.int .i64 v2,.int .u16 v3] 304));have Gf:=hid (Blk.new w1 304 #[.int .i64 v1,.int .i64 v2,.int .u16 v3]);have Gd:=hid ((H.out.below.trans (Gc.out.mono H.out.below.size)).alloc (Nat.le_trans H.out.below.size Gc.out.size) (.cells #[.int .i64 v1,.int .i64 v2,.int .u16 v3] 304));have Gs:=hid ((z0r H.out.own Gc.out).alloc (.cells #[.int .i64 v1,.int .i64 v2,.int .u16 v3] 304));generalize w1.alloc (.cells #[.int .i64 v1,.int .i64 v2,.int .u16 v3] 304)=W at *;have Gt:Hid (w6n v1 v2 w w1 A m c W.drew):=hid ⟨Gg.out.cell 1,Gf.out.cell 0,Gf.out.cell 1⟩;refine z0k (w6n v1 v2 w w1 A m c) 13 [(true,0),(true,1),(true,2),(true,3),(true,4),(true,5),(true,6),(true,7),(true,8),(true,9),(true,10),(false,11),(false,12)] (by kernel_rfl) (by kernel_rfl) Gt.out ?_;refine tkS (.pointer (some ⟨w.heap.size,0,none⟩)) (fun w' hS=>?_) ?_
   ·go_simp
   refine tkS (.pointer (some ⟨w.heap.size,0,none⟩)) (fun w' hS=>?_) ?_
   ·go_simp
   refine tkS (.pointer (some ⟨w.heap.size,0,none⟩)) (fun w' hS=>?_) ?_
   ·go_simp
   refine tkS (.pointer (some ⟨w.heap.size,1,none⟩)) (fun w' hS=>?_) ?_
   ·go_simp
   refine tkS (.slice A m c) (fun w' hS=>?_) ?_
   ·have f1:=hS.1
    go_simp
   refine tkS (.int .i64 ((s:Int)+(k:Int) * 32)) (fun w' hS=>?_) ?_
   ·go_simp
   refine tkS (.pointer (some ⟨w1.heap.size,0,none⟩)) (fun w' hS=>?_) ?_
   ·go_simp
   refine tkS (.int .i64 v1) (fun w' hS=>?_) ?_
   ·have f1:=hS.2.1
    go_simp
   refine tkS (.pointer (some ⟨w1.heap.size,1,none⟩)) (fun w' hS=>?_) ?_
   ·go_simp
   refine tkS (.int .i64 v2) (fun w' hS=>?_) ?_
   ·have f1:=hS.2.2
    go_simp
   refine tkS (.agg #[.int .i64 ((s:Int)+(k:Int) * 32),.int .i64 v1,.int .i64 v2,.bool false]) (fun w' hS=>?_) ?_
   ·go_simp
   have GE:m<=128:=by have:=H.out.hm;omega
   have G0:=hid Gd.out.size;have Gq:=hid Gg.out.lt;refine z0l (by rfl) ?_;go_wp2;have Gj:=hid ((Gg.out.alloc (.cells #[.int .i64 ((s:Int)+(k:Int) * 32),.int .i64 v1,.int .i64 v2,.bool false] 408)).drew);have Ge:=hid ((Gf.out.alloc (.cells #[.int .i64 ((s:Int)+(k:Int) * 32),.int .i64 v1,.int .i64 v2,.bool false] 408)).drew);have Gi:=hid ((Gs.out.alloc (.cells #[.int .i64 ((s:Int)+(k:Int) * 32),.int .i64 v1,.int .i64 v2,.bool false] 408)).drew);have G3:Hid (z0c (W.alloc (.cells #[.int .i64 ((s:Int)+(k:Int) * 32),.int .i64 v1,.int .i64 v2,.bool false] 408)).drew (W.heap.size+1) 4 (some ⟨W.heap.size,0,none⟩) 1 [.int .i64 ((s:Int)+(k:Int) * 32),.int .i64 v1,.int .i64 v2,.bool false]):=hid (z0m W W.heap.size rfl [.int .i64 ((s:Int)+(k:Int) * 32),.int .i64 v1,.int .i64 v2,.bool false] 1 4 408 _ rfl rfl);have Gx:=hid ((Gd.out.alloc Gd.out.size (.cells #[.int .i64 ((s:Int)+(k:Int) * 32),.int .i64 v1,.int .i64 v2,.bool false] 408)).drew);have Gz:Hid (w.heap.size+1<=(W.alloc (.cells #[.int .i64 ((s:Int)+(k:Int) * 32),.int .i64 v1,.int .i64 v2,.bool false] 408)).drew.heap.size):=hid (by have:=Gq.out;simp;omega);generalize (W.alloc (.cells #[.int .i64 ((s:Int)+(k:Int) * 32),.int .i64 v1,.int .i64 v2,.bool false] 408)).drew=WA at *;clear Gg Gf Gs Gd Gt G0 Gq;refine ⟨⟨Gj.out.cell 1,Ge.out.cell 0,Ge.out.cell 1⟩,?_⟩;refine z0l (by rfl) ?_
   refine z0p _ (.tmp 49) (.tmp 56) 404 rfl rfl (w.heap.size+1) 408 i0 _ 4 32 Tryz.underlying404 G6 G8 G9 GA rfl oM (.slice A m c) m (z2m s cs k) rfl Gi.out (W.heap.size+1) (some ⟨W.heap.size,0,none⟩) 1 1 [.int .i64 ((s:Int)+(k:Int) * 32),.int .i64 v1,.int .i64 v2,.bool false] rfl G3.out (by intro u hu;simp at hu;rcases hu with rfl | rfl | rfl | rfl <;> rfl) (by unfold maxLen;omega) oM Gz.out ?_;intro A3 n3 c3 w8 hn3 ho3 hg3 hb3;have G1:=hid hn3;have Gr:=hid ho3;have Ga:=hid ((Gj.out.grown hg3 (fun e=>z0i Gi.out Gj.out (by decide) e.symm)):Blk w8 w.heap.size 406 #[memV a,.slice A m c]);have Gn:=hid (Ge.out.grown hg3 (fun e=>z0i Gi.out Ge.out (by decide) e.symm));have Gw:=hid ((Gx.out.trans (hb3.mono (Nat.le_succ _))):Blw w w8);have z1:w8.frozen? ⟨w.heap.size,1,none⟩=false:=Ga.out.frozen 1;have c1:w8.cell? ⟨w.heap.size,1,none⟩=some (.slice A m c):=Ga.out.cell 1;clear hn3 ho3 hg3 hb3;refine ⟨⟨Ga.out.cell 1,Gn.out.cell 0,Gn.out.cell 1⟩,?_⟩;show wpList _ _ _ _ _ _;simp only [List.drop_succ_cons,List.drop_zero];go_wp2;refine NoPanic.normal ?_;go_wp2;have Gy:Hid (w4h a w (w8.setCell ⟨w.heap.size,1,none⟩ (.slice A3 n3 c3)) s cs (k+1) A3 n3 c3):=by
    refine ⟨Gw.out.setCell (nL _) _,Ga.out.set_ 1 _,?_,?_⟩
    ·rw [z5a,e7,Gb.out.1,Gb.out.2]
     exact ownsRow_setCell_other Gr.out (a:=⟨w.heap.size,1,none⟩) (z0i Gr.out Ga.out (by decide)) _
    ·have:=G1.out;have:=H.out.hm;omega
   go_roundw
   case rel =>
    repeat apply Exists.intro
    refine ⟨?_,rfl⟩;exact ⟨k+1,_,_,_,oM,by go_num,Gy⟩
   case measure=>simp [RowKit.intOf];omega
  ·obtain rfl:k=K:=oM
   go_wp2;go_ret2;exact ⟨rfl,⟨A,m,c,H.out.set_,H.out.hm,H.out.own⟩,H.out.below⟩
end
end Go.Proofs.YtfkjjoglnmeciaaGreatDoor
