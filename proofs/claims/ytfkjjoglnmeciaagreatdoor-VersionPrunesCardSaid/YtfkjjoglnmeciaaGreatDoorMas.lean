/- part 19 -/
import Derived.Test.YtfkjjoglnmeciaaGreatDoorMar
set_option maxRecDepth 100000
set_option maxHeartbeats 16000000
namespace Go.Proofs.YtfkjjoglnmeciaaGreatDoor
open Go.Lib (hid)
section
open Go.RowKit Go.Maps
def PSet (w:World) (b n:Nat) (l:List Nat):Prop:=∃ D:DataW Unit,w.ownsMap Tryz.prog 54 (plainElem Tryz.prog 4) b n D/\SetD D l
theorem keyP {x:Nat} (h:x < 18446744073709551616):keyOf Tryz.prog 54 (.int .u64 x)=some (kU x):=keyOf_int_mk Tryz.underlying54 (z8r h)
theorem w4a:Keyed Tryz.prog 54:=int_keyed Tryz.underlying54
theorem PSet.look {w:World} {b n:Nat} {l:List Nat} (h:PSet w b n l) {x:Nat} (hx:x < 18446744073709551616):(Instr.lookup 397 (.map (some b)) (.int .u64 x) false).run Tryz.prog w=.ok (.bool (decide (x∈l))) w:=by
 obtain ⟨D,ho,hd⟩:=h;obtain ⟨v,ps,Ga,hv⟩:=ho.lookup w4a Tryz.underlying397 (z := .bool false) (by kernel_rfl) (plainElem_bool Tryz.underlying4 false) (keyP hx);obtain ⟨c,rfl,hc⟩:=z7w Tryz.underlying4 hv;rw [hd x] at hc;simp at hc;rw [Ga,hc.1]
theorem PSet.add {w:World} {b n:Nat} {l:List Nat} (h:PSet w b n l) (hn:n < maxLen) {x:Nat} (hx:x < 18446744073709551616):∃ w',(Instr.mapUpdate 397 (.map (some b)) (.int .u64 x) (.bool true)).run Tryz.prog w=.ok () w'/\PSet w' b (n+1) (x :: l)/\w.grownBy w' (some b):=by
 obtain ⟨D,ho,hd⟩:=h;obtain ⟨w',Ga,Gb,hg⟩:=ho.update w4a Tryz.underlying397 hn (keyP hx) (plainElem_bool Tryz.underlying4 true);exact ⟨w',Ga,⟨_,Gb,hd.put ho.isMap x⟩,hg⟩
theorem PSet.new (w:World):PSet (w.alloc (.map #[] 0)) w.heap.size 0 []:=⟨_,World.ownsMap_made w _ _ _,SetD.nil⟩
section
theorem x2i {l:List Nat} {k:Nat} (hl:k < l.length):(l.take (k+1)).reverse=l[k] :: (l.take k).reverse:=by
 rw [List.take_succ_eq_append_getElem hl,List.reverse_append];rfl
theorem z6w {w:World} {B n:Nat} {A:Option Addr} {l:List Nat} (h:z0c w B 1 A n (z0a l)) {k:Nat} (hk:k < n) :
  ∃ (hl:k < l.length) (b off:Nat),A=some ⟨b,off,none⟩/\b < B/\w.cell? ⟨b,off+k,none⟩=some (.int .u64 ((l[k]:Nat):Int)):=by
 have hl:k < l.length:=by have:=h.1;simp [z0a] at this;omega
 obtain ⟨b,off,hA,hb,hc⟩:=h.plain oM oM;exact ⟨hl,b,off,hA,hb,hc k _ (by simp [z0a,hl])⟩
theorem y6k (A1 A2:Option Addr) (n1 c1 n2 c2:Nat) (keep free:List Nat) (w:World) (b:Nat) (hB:Blk w b 40 #[.slice A1 n1 c1,.slice A2 n2 c2]) (h1:z0c w w.heap.size 1 A1 n1 (z0a keep)) (h2:z0c w w.heap.size 1 A2 n2 (z0a free)) (hn:(keep++free).Nodup) (hv:∀ p∈keep++free,p≠0/\p < 18446744073709551616) (hn1:n1<=1000) (hn2:n2<=1000) :
  Calls Tryz.prog 234 #[.slice (some ⟨b,0,none⟩) 2 2] w fun e w'=>e=.returned (.bool true)/\Blw w w':=by
 have G1:∀ W,(Instr.makeMap 397 none).run Tryz.prog W=.ok (.map (some W.heap.size)) (W.alloc (.map #[] 0)):=fun _=>rfl
 have c0:(w.alloc (.map #[] 0)).cell? ⟨b,0,none⟩=some (.slice A1 n1 c1):=(hB.alloc _).cell 0;have Gu:(w.alloc (.map #[] 0)).cell? ⟨b,1,none⟩=some (.slice A2 n2 c2):=(hB.alloc _).cell 1;have Gc:Hid (Blw w (w.alloc (.map #[] 0))):=hid ((Below.refl _ w).alloc (nL _) (.map #[] 0));have Gf:Hid (PSet (w.alloc (.map #[] 0)) w.heap.size 0 (keep.take 0).reverse):=hid (PSet.new w);have Gs:=hid h1;have Gt:=hid h2;have HV:=hid hv;have Gk:=hid hn;have Gq:=hid hB;have Gr:=hid (show keep.length=n1 by have:=h1.1;simp [z0a] at this;omega);clear hB h1 h2 hv hn;go_enter Tryz.func234,Tryz.ntmps234
 go_wp2;refine wp_loop_rounds 3 ?_;rw [rounds_succ];go_wp2;go_loopw [17] (fun i wr=>∃ (k:Nat),k<=n1/\i=.int .i64 k/\Hid (PSet wr w.heap.size (k) (keep.take k).reverse)/\Hid (Blw w wr)) (fun i _=>n1 - (Go.RowKit.intOf i).toNat)
 case atStart=>exact ⟨0,Nat.zero_le _,rfl,Gf,Gc⟩
 case round =>
  clear Gf Gc;obtain ⟨k,hk,rfl,HS,H⟩:=hrel;by_cases hlt:k < n1
  ·obtain ⟨hl,b,Gz,hA,Gv,f0⟩:=z6w (Gs.out.below H.out) hlt
   subst hA;have Ga:keep[k]∈keep++free:=List.mem_append.2 (.inl (List.getElem_mem hl));have hv:=HV.out _ Ga;have Gi:keep[k] ∉ keep.take k:=fun hh=>by
    obtain ⟨j,hj,he⟩:=List.getElem_of_mem hh;have Gm:j < k:=by simp at hj;omega
    have Gl:keep[j]=keep[k]:=by rw [<- he];simp
    exact (List.pairwise_iff_getElem.1 (List.nodup_append.1 Gk.out).1) j k oM hl Gm Gl
   have Gb:keep[k] ∉ (keep.take k).reverse:=fun hh=>by
    exact Gi (by simpa using hh)
   have Gp:=HS.out.look (x:=keep[k]) hv.2;rw [decide_eq_false Gb] at Gp;obtain ⟨w2,Gw,Gj,Gh⟩:=HS.out.add (x:=keep[k]) (by unfold maxLen;omega) hv.2;have Gg:Hid (PSet w2 w.heap.size ((k+1)) (keep.take (k+1)).reverse):=hid (by rw [x2i hl];exact Gj);have Gd:=hid (H.out.trans ((z3f (Z:=fun j=>j=w.heap.size) Gh rfl).toBelow H.out.size (fun j hj=>oM)));have Ge:=hid (y1a keep[k]);rw [decide_eq_false hv.1] at Ge;clear Gj Gh Gb Gi Ga hv HS H;generalize keep[k]=p at *;have Gx:(0:Int)<=(k:Int):=oM;have Gy:(k:Int) < (n1:Int):=oM;go_wp2_with (go_at_call 22;refine (Ge.out _).mono ?_;rintro e w3 ⟨rfl,rfl⟩)
   go_roundw
   case rel =>
    first
     | exact ⟨k+1,oM,by go_num,Gg,Gd⟩
     | (
       repeat apply Exists.intro
       refine ⟨?_,rfl⟩;exact ⟨k+1,oM,by go_num,Gg,Gd⟩)
   case measure=>simp [Go.RowKit.intOf];omega
  ·have Gn:n1=k:=oM
   subst Gn;have G0:wr.cell? ⟨b,1,none⟩=some (.slice A2 n2 c2):=(Gq.out.below H.out Gq.out.lt).cell 1;have Gf:Hid (PSet wr w.heap.size (n1+0) ((free.take 0).reverse++keep.reverse)):=hid (by
    have h:=HS.out;rw [List.take_of_length_le (by rw [Gr.out];exact nL _)] at h;simpa using h)
   have Gc:=hid H.out;clear HS H hlt hk c0 Gu;go_wp2;rw [rounds_succ];go_wp2;go_loopw [17] (fun i wr=>∃ (k:Nat),k<=n2/\i=.int .i64 k/\Hid (PSet wr w.heap.size (n1+k) ((free.take k).reverse++keep.reverse))/\Hid (Blw w wr)) (fun i _=>n2 - (Go.RowKit.intOf i).toNat)
   case atStart=>exact ⟨0,Nat.zero_le _,rfl,Gf,Gc⟩
   case round =>
    clear Gf Gc;obtain ⟨k,hk,rfl,HS,H⟩:=hrel;by_cases hlt:k < n2
    ·obtain ⟨hl,b,Gz,hA,Gv,f0⟩:=z6w (Gt.out.below H.out) hlt
     subst hA;have Ga:free[k]∈keep++free:=List.mem_append.2 (.inr (List.getElem_mem hl));have hv:=HV.out _ Ga;have Gi:free[k] ∉ free.take k:=fun hh=>by
      obtain ⟨j,hj,he⟩:=List.getElem_of_mem hh;have Gm:j < k:=by simp at hj;omega
      have Gl:free[j]=free[k]:=by rw [<- he];simp
      exact (List.pairwise_iff_getElem.1 (List.nodup_append.1 Gk.out).2.1) j k oM hl Gm Gl
     have Gb:free[k] ∉ ((free.take k).reverse++keep.reverse):=fun hh=>by
      rcases List.mem_append.1 hh with hh | hh
      ·exact Gi (by simpa using hh)
      ·exact (List.nodup_append.1 Gk.out).2.2 _ (by simpa using hh) _ (List.getElem_mem hl) rfl
     have Gp:=HS.out.look (x:=free[k]) hv.2;rw [decide_eq_false Gb] at Gp;obtain ⟨w2,Gw,Gj,Gh⟩:=HS.out.add (x:=free[k]) (by unfold maxLen;omega) hv.2;have Gg:Hid (PSet w2 w.heap.size (n1+(k+1)) ((free.take (k+1)).reverse++keep.reverse)):=hid (by rw [x2i hl];exact Gj);have Gd:=hid (H.out.trans ((z3f (Z:=fun j=>j=w.heap.size) Gh rfl).toBelow H.out.size (fun j hj=>oM)));have Ge:=hid (y1a free[k]);rw [decide_eq_false hv.1] at Ge;clear Gj Gh Gb Gi Ga hv HS H;generalize free[k]=p at *;have Gx:(0:Int)<=(k:Int):=oM;have Gy:(k:Int) < (n2:Int):=oM;go_wp2_with (go_at_call 22;refine (Ge.out _).mono ?_;rintro e w3 ⟨rfl,rfl⟩)
     go_roundw
     case rel =>
      first
       | exact ⟨k+1,oM,by go_num,Gg,Gd⟩
       | (
         repeat apply Exists.intro
         refine ⟨?_,rfl⟩;exact ⟨k+1,oM,by go_num,Gg,Gd⟩)
     case measure=>simp [Go.RowKit.intOf];omega
    ·have Gn:n2=k:=oM
     subst Gn;go_wp2;rw [rounds_succ];go_wp2;go_ret;exact ⟨rfl,H.out⟩
end
end
section
open Go.RowKit Go.Maps
theorem w2w {a:DA} {s K base g:Nat} {cs:Nat->CS} {w:World} (h:w3w a s cs K w base g) (h1:1<=K):∃ pl,base<=pl/\Plc a s K ⟨g,pl,0⟩ cs w:=by
 obtain ⟨A,m,c,hB,hm,ho⟩:=h;subst hm;rcases ho.2 with ⟨_,h0⟩ | ⟨pl,cap,cur,hv,hge,hb,h2,h3,h4,h5⟩
 ·omega
 ·injection hv with e1 e2 e3
  subst e1 e3;refine ⟨pl,hge,⟨_,hB⟩,cur,hb,fun k hk=>?_⟩;obtain ⟨p0,p1,p2,p3⟩:=y1d s cs m k hk;have hg:∀ (j:Nat) (u:Value),(z2m s cs m)[j]?=some u->cur[0+j]?=some u:=fun j u hu=>by
   rw [<- h5] at hu;rw [Nat.zero_add,<- Array.getElem?_toList];have hj:=(List.getElem?_eq_some_iff.1 hu).1;rw [List.length_take] at hj;rw [List.getElem?_take_of_lt oM] at hu;exact hu
  refine ⟨hg _ _ p0,?_,?_,false,?_⟩
  ·rw [Nat.add_assoc];exact hg _ _ p1
  ·rw [Nat.add_assoc];exact hg _ _ p2
  ·rw [Nat.add_assoc];exact hg _ _ p3
theorem w8d {w:World} {B n s K:Nat} {A:Option Addr} (h:z0c w B 1 A n (z1x ((List.range K).map fun k=>((s+32 * k:Nat):Int)))) {k:Nat} (hk:k < n) :
  ∃ (b off:Nat),A=some ⟨b,off,none⟩/\b < B/\w.cell? ⟨b,off+k,none⟩=some (.int .i64 ((s+32 * k:Nat):Int)):=by
 have hl:k < K:=by have:=h.1;simp [z1x] at this;omega
 obtain ⟨b,off,hA,hb,hc⟩:=h.plain oM oM;exact ⟨b,off,hA,hb,hc k _ (by simp [z1x,hl])⟩
def w6w (a:DA) (s n K:Nat) (cs:Nat->CS) (w:World) (e:Ending) (w':World):Prop:=∃ x:HA,e=.returned (.tuple #[.pointer (some ⟨x.h,0,none⟩),.int .i64 0])/\HS a s n K x cs (fun _=>none) 0 0 w'/\(w.heap.size<=x.h/\w.heap.size<=x.gs/\w.heap.size<=x.pl/\w.heap.size<=x.mr/\w.heap.size<=x.mh)/\Blw w w'
theorem y4k {a:DA} {L T:Nat} {w:World} {S:Fp} {cur:Nat->Nat} {F:Nat} (cs:Nat->CS) (h:Dev a L T w S cur F) (ht:Tab w) (hp:Pay w) (s n K:Nat) (hn:32<=n) (hs:s+n<=L) (hK:n / 32=K) (hv:∀ k,k < K->CSok cur (s+32 * k) (cs k)) :
  Calls Tryz.prog 181 #[memV a,.int .i64 s,.int .i64 n] w (w6w a s n K cs w):=by
 have HA:=hid (y1r cs h ht hp s n K hn hs hK hv);have hL:L<=4096:=by obtain ⟨ls,GA,GG,cs,GE,G3,GB⟩:=h;exact G3.hL
 have G7:∀ W,(Instr.makeMap 190 none).run Tryz.prog W=.ok (.map (some W.heap.size)) (W.alloc (.map #[] 0)):=fun _=>rfl
 have G8:∀ W,(Instr.makeMap 191 none).run Tryz.prog W=.ok (.map (some W.heap.size)) (W.alloc (.map #[] 0)):=fun _=>rfl
 have Gu:K<=128:=oM;have G1:1<=K:=oM;have Gy:s<=100000:=oM;have Gl:Hid (∀ k,k < K->(cs k).dv=true->∀ W,Blw w W->Calls Tryz.prog 195 #[memV a,.int .i64 ((s+32 * k:Nat):Int)] W fun e w'=>e=.returned (.tuple #[chV a (s+32 * k) (cs k).cl 0 (cs k).g,.int .i64 0])/\Blw W w'):=hid (fun k hk hd W hW=>by
  have hc:=hv k hk;unfold CSok at hc;rw [if_pos hd] at hc;exact z3q (h.below hW) (ht.below hW) (hp.below hW) (s+32 * k) _ _ oM hc.cls hc.g0 hc.g1 hc.hdr)
 have Gt:Hid (∀ k,k < K->(cs k).dv=true->∀ W,Blw w W->Calls Tryz.prog 290 #[chV a (s+32 * k) (cs k).cl 0 (cs k).g] W fun e w'=>e=.returned (.int .i64 0)/\Blw W w'):=hid (fun k hk hd W hW=>by
  have hc:=hv k hk;unfold CSok at hc;rw [if_pos hd] at hc;exact y8v (h.below hW) (ht.below hW) (hp.below hW) hc oM)
 clear h ht hp hv hK hn hs;unfold memV at HA Gl;unfold memV;go_enter Tryz.func181,Tryz.ntmps181
 go_wp2_with (first
  | (go_at_call 288;refine HA.out.mono ?_;rintro e w1 ⟨rfl,Gg,Gv⟩;obtain ⟨pl,Gn,Gd⟩:=w2w Gg G1;have Gm:=hid Gd;have G0:=hid Gn;have Gj:=hid Gv;have HL:=hid (y2w Gm.out Gu Gy);clear Gg Gv Gn Gd)
  | (go_at_call 197;refine HL.out.mono ?_;rintro e w2 ⟨A,m,c,rfl,ho,Gf⟩;have G6:m=K:=(by have h1:=ho.1;rw [z6g] at h1;simp at h1;omega);have HO:=hid (z0c.of_own ho);have Gh:=hid (Gm.out.below Gf);have Ga:=hid (Gj.out.trans (Gf.mono Gj.out.size));clear ho Gf)
  | go_in)
 clear HA HL Gm Gj;subst G6;go_loopw [28] (fun i wr=>∃ (k:Nat),k<=m/\i=.int .i64 k/\Hid (Blw w2 wr)) (fun i _=>m - (Go.RowKit.intOf i).toNat)
 case atStart=>exact ⟨0,Nat.zero_le _,rfl,hid (Below.refl _ _)⟩
 case round =>
  obtain ⟨k,hk,rfl,HR⟩:=hrel;by_cases hlt:k < m
  ·obtain ⟨b,GF,hA,G2,f0⟩:=w8d (HO.out.below HR.out) hlt
   subst hA;have Ge:=hid (x4l (Gh.out.below HR.out) Gu Gy hlt);have Gc:=hid (Gt.out k hlt);have Gb:=hid (Gl.out k hlt);obtain ⟨ln,Gx⟩:∃ ln,s+32 * k=ln:=⟨_,rfl⟩
   rw [Gx] at f0 Ge Gc Gb;have GC:(0:Int)<=(k:Int):=oM;have GD:(k:Int) < (m:Int):=oM;clear Gx G2;by_cases hd:(cs k).dv=true
   ·have ho:(cs k).own=0:=by unfold CS.own;rw [if_pos hd]
    rw [ho] at Ge;have Gr:=hid (Gb.out hd wr (Ga.out.trans (HR.out.mono Ga.out.size)));have Gs:=hid (Gc.out hd);generalize (cs k).cl=ccl at *;generalize (cs k).g=cg at *;unfold chV memV at Gr Gs;clear hd ho Gc Gb;go_wp2_with (first
     | (go_at_call 289;refine Ge.out.mono ?_;rintro e w3 ⟨rfl,rfl⟩)
     | (go_at_call 195;refine Gr.out.mono ?_;rintro e w3 ⟨rfl,Gi⟩;have Gp:=hid (HR.out.trans (Gi.mono HR.out.size));clear Gi)
     | fail)
    have Gk:=hid (Gp.out.alloc Gp.out.size (.cells #[.iface 58 (.pointer (some ⟨a.th 0,0,none⟩)),.int .i64 ln,.int .i64 ccl,.int .i64 0,.int .u16 cg] 306));have Gz:=hid (Gs.out _ (Ga.out.trans (Gk.out.mono Ga.out.size)));go_wp2_with (first
     | (go_at_call 290;refine Gz.out.mono ?_;rintro e w5 ⟨rfl,Gw⟩;have Gq:=hid (Gk.out.trans (Gw.mono Gk.out.size));clear Gw)
     | fail)
    go_roundw
    case rel =>
     first
      | exact ⟨k+1,oM,by go_num,Gq⟩
      | (
        repeat apply Exists.intro
        refine ⟨?_,rfl⟩;exact ⟨k+1,oM,by go_num,Gq⟩)
    case measure=>simp [Go.RowKit.intOf];omega
   ·have ho:(cs k).own = -1:=by unfold CS.own;rw [if_neg hd]
    rw [ho] at Ge;clear hd ho Gc Gb;go_wp2_with (first
     | (go_at_call 289;refine Ge.out.mono ?_;rintro e w3 ⟨rfl,rfl⟩)
     | fail)
    go_roundw
    case rel =>
     first
      | exact ⟨k+1,oM,by go_num,HR⟩
      | (
        repeat apply Exists.intro
        refine ⟨?_,rfl⟩;exact ⟨k+1,oM,by go_num,HR⟩)
    case measure=>simp [Go.RowKit.intOf];omega
  ·obtain rfl:m=k:=oM
   go_wp2;go_ret2;have Ga:=hid (Ga.out.trans (HR.out.mono Ga.out.size));have Gh:=hid (Gh.out.below HR.out);clear HR HO Gl Gt;have e9:((wr.alloc (.map #[] 0)).alloc (.map #[] 0)).heap.size=wr.heap.size+1+1:=by simp
   have Gf:Blw w ((wr.alloc (.map #[] 0)).alloc (.map #[] 0)):=(Ga.out.alloc Ga.out.size _).alloc (by have:=Ga.out.size;simp;omega) _;have Gd:=Gh.out;have Gn:=G0.out;have G9:=Ga.out.size;have Gi:∀ V,Blw wr (((wr.alloc (.map #[] 0)).alloc (.map #[] 0)).alloc V):=fun V=>(((Below.refl _ wr).alloc (nL _) _).alloc (by simp) _).alloc (by simp;omega) _
   have G4:PMap ((wr.alloc (.map #[] 0)).alloc (.map #[] 0)) wr.heap.size 0 (fun _=>none) 0:=(PMap.new wr).chg ((Chg.refl Fp.no _).alloc _) (fun h=>h);have G5:=HMap.new (wr.alloc (.map #[] 0));refine ⟨⟨wr.heap.size+1+1,w.heap.size,pl,0,wr.heap.size,wr.heap.size+1⟩,rfl,⟨by rw [<- e9];exact Blk.new _ _ _,Gd.below (Gi _),G4.chg ((Chg.refl Fp.no _).alloc _) (fun h=>h),?_,?_⟩,⟨?_,nL _,?_,?_,?_⟩,Gf.alloc (by rw [e9];omega) _⟩
   ·have:=G5.chg ((Chg.refl Fp.no _).alloc (.cells (z3g a s n w.heap.size wr.heap.size (wr.heap.size+1) false) 194)) (fun h=>h)
    have e8:(wr.alloc (.map #[] 0)).heap.size=wr.heap.size+1:=by simp
    rw [e8] at this;exact this
   ·show wr.heap.size≠wr.heap.size+1
    omega
   ·show w.heap.size<=wr.heap.size+1+1
    omega
   ·show w.heap.size<=pl
    omega
   ·exact G9
   ·show w.heap.size<=wr.heap.size+1
    omega
end
section
open Go.RowKit
def w6p (w:World) (ln cl:Nat) (bs:Nat->BK) (take:List (Nat × Nat)) (drop:List Nat) (e:Ending) (w':World):Prop :=
 ∃ A m c V',e=.returned (.tuple #[.slice A m c,.int .i64 0])/\Bits V' cl (actB bs take drop)/\w'.ownsRow w.heap.size 114 2 (.slice A m c) m (z0d (chgW ln cl bs take drop V'))/\Blw w w'
section
variable {a:DA} {L T:Nat} {w:World} {S:Fp} {cur:Nat->Nat} {F:Nat}
theorem y4a (h:Dev a L T w S cur F) (ht:Tab w) (hp:Pay w) (ln cl g V:Nat) (bs:Nat->BK) (hl:ln+32<=L) (hC:ChW cur ln cl g V bs)
  (A1 A2 A3:Option Addr) (n1 c1 c2 n3 c3:Nat) (take:List (Nat × Nat)) (drop:List Nat) (h1:z0c w w.heap.size 1 A1 n1 (z0x (take.map (·.1)))) (h2:z0c w w.heap.size 1 A2 n1 (u8s (take.map (·.2)))) (h3:z0c w w.heap.size 1 A3 n3 (z0x drop))
  (hn:(take.map (·.1)++drop).Nodup) (hi1:∀ e∈take,e.1 < perC cl/\(bs e.1).st=176/\0 < e.2/\e.2 < 128) (hi3:∀ i∈drop,i < perC cl/\(bs i).st=177) (hne:0 < n1\/0 < n3) (hn1:n1<=100) (hn3:n3<=100) :
  Calls Tryz.prog 240 #[chV a ln cl 0 g,.slice A1 n1 c1,.slice A2 n1 c2,.slice A3 n3 c3] w (w6p w ln cl bs take drop):=by
 have Gw:Blw w (w.alloc (.cells (z0o a ln cl g) 306)):=(Below.refl _ _).alloc (nL _) _;have Gd:=hid Gw;have HK:=hid (Blk.new w 306 (z0o a ln cl g));have Gu:Hid (∀ W bl,Blw w W->Blk W bl 34 #[.slice A1 n1 c1,.slice A3 n3 c3]->Calls Tryz.prog 318 #[chV a ln cl 0 g,.slice (some ⟨bl,0,none⟩) 2 2] W fun e w'=>e=.returned (.bool true)/\Blw W w'):=hid (fun W bl hW hB=>w2c a ln cl g hC.cls A1 A3 n1 c1 n3 c3 (take.map (·.1)) drop W (hp.below hW) bl hB ((h1.below hW).more hW.size) ((h3.below hW).more hW.size) hn (fun i hi=>by
  rcases List.mem_append.1 hi with hi | hi
  ·obtain ⟨e,he,rfl⟩:=List.mem_map.1 hi
   exact (hi1 e he).1
  ·exact (hi3 i hi).1) oM oM)
 have Gs:Hid (∀ W,Blw w W->Calls Tryz.prog 112 #[.pointer (some ⟨a.th 0,0,none⟩)] W fun e w'=>e=.returned (.int .i64 0)/\W=w'):=hid (fun W hW=>z9l (h.below hW));have Gq:Hid (∀ W,Blw w W->Calls Tryz.prog 319 #[chV a ln cl 0 g,.slice A1 n1 c1,.slice A2 n1 c2,.slice A3 n3 c3] W (w3p W ln cl bs take drop)):=hid (fun W hW=>y8x (h.below hW) (ht.below hW) (hp.below hW) ln cl g V bs hl hC A1 A2 A3 n1 c1 c2 n3 c3 take drop ((h1.below hW).more hW.size) ((h2.below hW).more hW.size) ((h3.below hW).more hW.size) hn hi1 hi3 hne hn1 hn3);have G3:=hid h2;have G0:=hid hi1;have Gf:=hid (show take.length=n1 by have:=h2.1;simp [u8s] at this;omega);have hm:=z1z (some ⟨a.th 0,0,none⟩);have hq:=y0k (some ⟨a.th 0,0,none⟩);clear h ht hp hl hC h1 h2 h3 hn hi1 hi3 hne Gw;unfold chV at *;unfold z0o memV at *;generalize hW:w.alloc (.cells #[.iface 58 (.pointer (some ⟨a.th 0,0,none⟩)),.int .i64 ln,.int .i64 cl,.int .i64 0,.int .u16 g] 306)=W at *;have G4:=hid hW.symm;clear hW;go_enter Tryz.func240,Tryz.ntmps240
 go_wp2;rw [<- G4.out];go_loopw [23] (fun i wr=>∃ (k:Nat),k<=n1/\i=.int .i64 k/\Hid (W=wr)) (fun i _=>n1 - (Go.RowKit.intOf i).toNat)
 case atStart=>exact ⟨0,Nat.zero_le _,rfl,hid rfl⟩
 case round =>
  obtain ⟨k,hk,rfl,hw⟩:=hrel;have hw:=hw.out;subst hw;by_cases hlt:k < n1
  ·obtain ⟨G8,b2,G9,G5,G6,fk⟩:=x7m (G3.out.below Gd.out) hlt
   subst G5;have e2:(take.map (·.2))[k]=(take[k]'(by rw [Gf.out];exact hlt)).2:=by simp
   rw [e2] at fk;obtain ⟨_,_,GB,GC⟩:=G0.out (take[k]'(by rw [Gf.out];exact hlt)) (List.getElem_mem _);generalize (take[k]'(by rw [Gf.out];exact hlt)).2=kd at *;have d1:((kd:Int) == 0)=false:=by rw [beq_eq_false_iff_ne];omega
   have d2:decide ((127:Int) < (kd:Int))=false:=dF;have GA:decide (127 < kd)=false:=dF;have GE:(0:Int)<=(k:Int):=oM;have GF:(k:Int) < (n1:Int):=oM;clear e2 G8;go_wp2;go_roundw
   case rel =>
    first
     | exact ⟨k+1,oM,by go_num,hid trivial⟩
     | exact ⟨k+1,oM,by go_num,hid rfl⟩
     | (
       repeat apply Exists.intro
       refine ⟨?_,rfl⟩;exact ⟨k+1,oM,by go_num,hid rfl⟩)
   case measure=>simp [Go.RowKit.intOf];omega
  ·have G7:k=n1:=oM
   subst G7;clear hlt hk;have Gi:W.cell? ⟨w.heap.size,0,none⟩=some (.iface 58 (.pointer (some ⟨a.th 0,0,none⟩))):=HK.out.cell 0;have Gj:W.cell? ⟨w.heap.size,1,none⟩=some (.int .i64 ln):=HK.out.cell 1;have Gk:W.cell? ⟨w.heap.size,2,none⟩=some (.int .i64 cl):=HK.out.cell 2;have Gl:W.cell? ⟨w.heap.size,3,none⟩=some (.int .i64 0):=HK.out.cell 3;have Gm:W.cell? ⟨w.heap.size,4,none⟩=some (.int .u16 g):=HK.out.cell 4;have Gc:=hid (Gd.out.alloc Gd.out.size (.cells #[.slice A1 k c1,.slice A3 n3 c3] 34));have Gt:=hid (Blk.new W 34 #[.slice A1 k c1,.slice A3 n3 c3]);have Gv:=hid (Gu.out _ _ Gc.out Gt.out);have Ge:=hid (HK.out.alloc (.cells #[.slice A1 k c1,.slice A3 n3 c3] 34));clear Gu Gt;go_wp2_with (go_at_call 318;refine Gv.out.mono ?_;rintro e w2 ⟨rfl,Gg⟩;refine stop ?_)
   unfold Stop;have Gb:=hid (Gc.out.trans (Gg.mono Gc.out.size));have Ga:=hid (Ge.out.below Gg Ge.out.lt);clear Gg Gi Gj Gk Gl Gm Gv Gc Ge;have Gi:w2.cell? ⟨w.heap.size,0,none⟩=some (.iface 58 (.pointer (some ⟨a.th 0,0,none⟩))):=Ga.out.cell 0;have Gj:w2.cell? ⟨w.heap.size,1,none⟩=some (.int .i64 ln):=Ga.out.cell 1;have Gk:w2.cell? ⟨w.heap.size,2,none⟩=some (.int .i64 cl):=Ga.out.cell 2;have Gl:w2.cell? ⟨w.heap.size,3,none⟩=some (.int .i64 0):=Ga.out.cell 3;have Gm:w2.cell? ⟨w.heap.size,4,none⟩=some (.int .u16 g):=Ga.out.cell 4;have Gp:=hid (Gq.out w2 Gb.out);have Gr:=hid (Gs.out w2 Gb.out);go_wp2_with (first
    | (go_at_call 112;refine Gr.out.mono ?_;rintro e w3 ⟨rfl,rfl⟩)
    | (go_at_call 319;refine Gp.out.mono ?_;rintro e w3 ⟨A,m,c,V',rfl,Gx,ho,Gh⟩;refine stop ?_))
   unfold Stop;have Gn:=hid (Gb.out.trans (Gh.mono Gb.out.size));have G1:=hid (Ga.out.below Gh Ga.out.lt);have Gy:=hid Gx;have G2:=hid (z6q (base':=w.heap.size) ho Gb.out.size);have Gz:=hid (Gs.out w3 Gn.out);have GD:w3.cell? ⟨w.heap.size,0,none⟩=some (.iface 58 (.pointer (some ⟨a.th 0,0,none⟩))):=G1.out.cell 0;clear Gh Gx ho Gi Gj Gk Gl Gm Gp Gr Gq;go_wp2_with (go_at_call 112;refine Gz.out.mono ?_;rintro e w4 ⟨rfl,rfl⟩)
   go_ret2;exact ⟨_,_,_,V',rfl,Gy.out,G2.out,Gn.out⟩
end
end
section
open Go.RowKit Go.Maps
section
variable {a:DA} {L T s n K:Nat} {x:HA} {cs:Nat->CS} {f:Nat->Option Nat} {N m b0:Nat} {S:Fp} {cur:Nat->Nat} {w w':World} {k:Nat}
theorem DS.rel (h:DS a L T s n K x cs f N m b0 S cur w) {o p:Nat} (hf:f o=some p) (ho:o < 18446744073709551616) (hk:k < K) (hN:N < maxLen) :
  ∃ (w1 w2 w3:World) (c c2:Int),
   (Builtin.delete_ #[190,32] 0 #[.map (some x.mr),.int .u64 o]).run Tryz.prog w.drew=.ok (.tuple #[]) w1 /\
   (Instr.lookup 191 (.map (some x.mh)) (.int .i64 ((s+32 * k:Nat):Int)) false).run Tryz.prog w1=.ok (.int .i64 c) w1 /\
   (Instr.mapUpdate 191 (.map (some x.mh)) (.int .i64 ((s+32 * k:Nat):Int)) (.int .i64 (wrap64 (c - 1)))).run Tryz.prog w1=.ok () w2 /\
   (Instr.lookup 191 (.map (some x.mh)) (.int .i64 ((s+32 * k:Nat):Int)) false).run Tryz.prog w2=.ok (.int .i64 c2) w2 /\
   (Builtin.delete_ #[191,3] 0 #[.map (some x.mh),.int .i64 ((s+32 * k:Nat):Int)]).run Tryz.prog w2=.ok (.tuple #[]) w3 /\
   Blk w1 x.h 194 (z3g a s n x.gs x.mr x.mh false)/\Blk w2 x.h 194 (z3g a s n x.gs x.mr x.mh false)/\Blk w3 x.h 194 (z3g a s n x.gs x.mr x.mh false)/\Plc a s K x.p cs w3 /\
   (DS a L T s n K x cs (updF f o none) (N+1) (m - 1) b0 S cur w2/\Chg x.fp w w2) /\
   ∀ w4,Plc a s K x.p cs w4->Chg (fun j=>j=x.pl) w3 w4->DS a L T s n K x cs (updF f o none) (N+1) (m - 1) b0 S cur w4/\Chg x.fp w w4:=by
 obtain ⟨n1,n2,n3,n4,n5,n6,n7,n8⟩:=h.hs.pl_ne;have Gc:=h.few;have hd:Chg Fp.no w w.drew:=(Chg.refl _ _).drew;have hs:=h.hs.chg hd (fun h=>h) (fun h=>h) (fun h=>h) (fun h=>h) (fun h=>h);obtain ⟨w1,r1,p1,g1⟩:=hs.res.del ho hf;have c1:Chg (fun j=>j=x.mr) w.drew w1:=z3f g1 rfl;have Gb:=hs.held.chg c1 (fun e=>hs.ne e.symm);obtain ⟨c,r2,Ge⟩:=Gb.look (x:=s+32 * k) oM;obtain ⟨w2,r3,p2,g2⟩:=Gb.put hN (x:=s+32 * k) oM (wrap64_wf (c - 1));have c2:Chg (fun j=>j=x.mh) w1 w2:=z3f g2 rfl;obtain ⟨cc,r4,Gd⟩:=p2.look (x:=s+32 * k) oM;obtain ⟨w3,r5,p3,g3⟩:=p2.del (x:=s+32 * k) oM;have c3:Chg (fun j=>j=x.mh) w2 w3:=z3f g3 rfl;have b1:=c1.blk hs.heap n5;have b2:=c2.blk b1 n6;have b3:=c3.blk b2 n6;have l2:=(hs.plc.chg c1 n3 n1).chg c2 n4 n2;have l3:=l2.chg c3 n4 n2;have f2:Chg x.fp w w2:=(((Chg.refl x.fp w).drew).trans (S':=fun j=>j=x.mr) c1 (fun j hj => .inl (.inr (.inl hj)))).trans (S':=fun j=>j=x.mh) c2 (fun j hj => .inl (.inr (.inr hj)));have Ga:∀ o' p',updF f o none o'=some p'->x5m s K cs o' p':=fun o' p' hop=>by
  unfold updF at hop;split at hop
  ·cases hop
  ·exact h.res o' p' hop
 have q2:=(p1.mono (Nat.le_succ N)).chg c2 h.hs.ne;refine ⟨w1,w2,w3,c,cc,r1,r2,r3,r4,r5,b1,b2,b3,l3,⟨h.own_ ⟨b2,l2,q2,p2,h.hs.ne⟩ f2 h.ok Ga,f2⟩,fun w4 l4 c4=>?_⟩;have f4:Chg x.fp w w4:=(f2.trans (S':=fun j=>j=x.mh) c3 (fun j hj => .inl (.inr (.inr hj)))).trans (S':=fun j=>j=x.pl) c4 (fun j hj => .inl (.inl hj));exact ⟨h.own_ ⟨c4.blk b3 n8,l4,(q2.chg c3 h.hs.ne).chg c4 (fun e=>n1 e.symm),p3.chg c4 (fun e=>n2 e.symm),h.hs.ne⟩ f4 h.ok Ga,f4⟩
end
def y5s (a:DA) (L T s n K:Nat) (x:HA) (cs:Nat->CS) (f:Nat->Option Nat) (N m b0:Nat) (S:Fp) (cur:Nat->Nat) (w:World) (v:Value) (e:Ending) (w':World):Prop:=e=.returned v/\DS a L T s n K x cs f N m b0 S cur w'/\Chg x.fp w w'
section
variable {a:DA} {L T s n K:Nat} {x:HA} {cs:Nat->CS} {f:Nat->Option Nat} {N m b0:Nat} {S:Fp} {cur:Nat->Nat} {w w':World}
theorem x0b (h:DS a L T s n K x cs f N m b0 S cur w) (p:Nat) (hf:f (pOff p)=some p) (hN:N < 1000000000) :
  Calls Tryz.prog 245 #[.pointer (some ⟨x.h,0,none⟩),.int .u64 p] w (y5s a L T s n K x cs (updF f (pOff p) none) (N+1) (m - 1) b0 S cur w (.tuple #[])):=by
 obtain ⟨k,i,hk,hd,hi,Gj,_⟩:=h.res _ _ hf;have Gh:z3m s K (pOff p)=some k:=by rw [Gj];exact z8b hk hi
 have Gb:pOff p < 18446744073709551616:=by unfold pOff;omega
 obtain ⟨w1,w2,w3,c,c2,r1,r2,r3,r4,r5,b1,b2,b3,l3,hA,hB⟩:=h.rel hf Gb hk (by unfold maxLen;omega);have Ga:=h.few;have Gg:=hid (z4y p);have Gn:n<=4096:=by have:=h.hK;have:=h.hL;omega
 have Gf:=hid (x1i b1 Ga.2 Gn h.hK.1 (pOff p) Gb);have Gc:=hid (y0o l3 Ga.1 oM hk hd false);have Ge:=hid hA;have Gk:=hid hB;have Gd:=hid Gh;have y0:w.cell? ⟨x.h,4,none⟩=some (.map (some x.mr)):=h.hs.heap.cell 4;have y1:w1.cell? ⟨x.h,5,none⟩=some (.map (some x.mh)):=b1.cell 5;have y2:w2.cell? ⟨x.h,5,none⟩=some (.map (some x.mh)):=b2.cell 5;have y3:w3.cell? ⟨x.h,3,none⟩=some (.pointer (some ⟨x.gs,0,none⟩)):=b3.cell 3;clear h Gj hf hA hB Gh b1 b2 b3 l3 hd hi;unfold HA.p y3r at Gc;dsimp only at Gc;unfold y5s;generalize pOff p=o at *;obtain ⟨v,hv⟩:∃ v:Int,((s+32 * k:Nat):Int)=v:=⟨_,rfl⟩
 rw [hv] at r2 r3 r4 r5 Gc;have Gl:=hid hv;clear hv;go_enter Tryz.func245,Tryz.ntmps245
 go_wp2_with fail
 go_region_with (go_at_call 135;refine (Gg.out _).mono ?_;rintro e wz ⟨rfl,rfl⟩)
 all_goals
  go_wp2_with (first
   | (go_at_call 135;refine (Gg.out _).mono ?_;rintro e wz ⟨rfl,rfl⟩)
   | (go_at_call 194;refine Gf.out.mono ?_;rintro e wz ⟨l1,bb,rfl,hP,rfl⟩;refine stop ?_))
  unfold Stop;have Gm:((l1:Nat):Int)=v/\bb=true:=by
   rcases hP with ⟨h1,_,_⟩ | ⟨k',h1,_,h3,h4⟩
   ·rw [Gd.out] at h1;cases h1
   ·rw [Gd.out] at h1
    injection h1 with h1
    subst h1;exact ⟨by rw [h3];exact Gl.out,h4⟩
  obtain ⟨Gi,rfl⟩:=Gm;rw [Gi];clear hP Gi Gf Gd;by_cases hc2:c2<=0
  ·have e1:decide (c2<=0)=true:=decide_eq_true hc2
   clear hc2;go_wp2_with (go_at_call 320;refine Gc.out.mono ?_;rintro e w4 ⟨rfl,l4,c4⟩;have HE:=hid (Gk.out w4 l4 c4);clear l4 c4)
   go_end0;exact ⟨rfl,HE.out.1,HE.out.2⟩
  ·have e1:decide (c2<=0)=false:=decide_eq_false hc2
   go_wp2;go_end0;exact ⟨rfl,Ge.out.1,Ge.out.2⟩
end
end
section
open Go.RowKit Go.Maps
def chR:Value->Option (DataW Unit × List MemPlace)
 | .pointer (some ⟨g,0,none⟩)=>some (.lit (.int .i64 g),[])
 | .pointer none=>some (.lit (.bool false),[])
 | _=>none
def chD:Option Nat->DataW Unit
 | some g => .lit (.int .i64 g)
 | none => .lit (.bool false)
def chV':Option Nat->Value
 | some g => .pointer (some ⟨g,0,none⟩)
 | none => .pointer none
theorem w7o (o:Option Nat):chR (chV' o)=some (chD o,[]):=by cases o <;> rfl
theorem w4y {v:Value} {o:Option Nat} {ps:List MemPlace} (h:chR v=some (chD o,ps)):v=chV' o:=by
 unfold chR at h;split at h
 ·rename_i g
  cases o with
  | none=>simp [chD] at h
  | some g' =>
         simp [chD] at h;obtain ⟨h1,_⟩:=h;have:g=g':=oM;subst this;rfl
 ·cases o with
  | none=>rfl
  | some g'=>simp [chD] at h
 ·cases h
def y0v (s k:Nat):Lit := .int .i64 ((s+32 * k:Nat):Int)
theorem y7f (s k:Nat):WideAt.IsKeyLit (y0v s k):=by simp [WideAt.IsKeyLit,y0v]
theorem w1u {s k k':Nat} (h:k'≠k):y0v s k'≠y0v s k:=by
 intro e;unfold y0v at e;injection e with _ e
 omega
structure ChMD (D:DataW Unit) (s K:Nat) (cb:Nat->Option Nat):Prop where
 at_:∀ k,k < K->D.atKey (y0v s k) (.lit (.bool false))=chD (cb k)
 has:∀ x:Int,Maps.has D (.int .i64 x)=true↔∃ k,k < K/\x=((s+32 * k:Nat):Int)/\(cb k).isSome=true
def ChM (w:World) (mb N s K:Nat) (cb:Nat->Option Nat):Prop:=∃ D:DataW Unit,w.ownsMap Tryz.prog 3 chR mb N D/\ChMD D s K cb
def updO (cb:Nat->Option Nat) (k:Nat) (v:Option Nat):Nat->Option Nat:=fun j=>if j=k then v else cb j
section
variable {w w':World} {mb N s K:Nat} {cb:Nat->Option Nat} {k:Nat}
theorem ChM.look (h:ChM w mb N s K cb) (hk:k < K) (hs:s+32 * k < 9000000000):(Instr.lookup 335 (.map (some mb)) (.int .i64 ((s+32 * k:Nat):Int)) false).run Tryz.prog w=.ok (chV' (cb k)) w:=by
 obtain ⟨D,ho,hd⟩:=h;obtain ⟨v,ps,Ga,hv⟩:=ho.lookup y2v Tryz.underlying335 (z := .pointer none) (by kernel_rfl) (show chR (.pointer none)=some (.lit (.bool false),[]) from rfl) (keyI hs);have he:=hd.at_ k hk;unfold y0v at he;rw [he] at hv;rw [Ga,w4y hv]
theorem ChM.put (h:ChM w mb N s K cb) (hN:N < maxLen) (hk:k < K) (hs:s+32 * k < 9000000000) (g:Nat) :
  ∃ w',(Instr.mapUpdate 335 (.map (some mb)) (.int .i64 ((s+32 * k:Nat):Int)) (.pointer (some ⟨g,0,none⟩))).run Tryz.prog w=.ok () w'/\ChM w' mb (N+1) s K (updO cb k (some g))/\w.grownBy w' (some mb):=by
 obtain ⟨D,ho,hd⟩:=h;obtain ⟨w',Ga,Gb,hg⟩:=ho.update y2v Tryz.underlying335 hN (keyI hs) (w7o (some g));refine ⟨w',Ga,⟨_,Gb,fun j hj=>?_,fun y=>?_⟩,hg⟩
 ·unfold updO
  by_cases e:j=k
  ·subst e
   rw [if_pos rfl];exact atKey_put_same ho.isMap (y7f s j) _ _
  ·rw [if_neg e]
   exact (atKey_put_other (w1u e) _ _).trans (hd.at_ j hj)
 ·by_cases e:y=((s+32 * k:Nat):Int)
  ·subst e
   have h1:=has_put_same ho.isMap (y7f s k) (chD (some g));unfold y0v at h1;rw [h1];exact ⟨fun _=>⟨k,hk,rfl,by simp [updO]⟩,fun _=>rfl⟩
  ·have h1:Maps.has (D.put (y0v s k) (chD (some g))) (.int .i64 y)=Maps.has D (.int .i64 y):=has_put_other (fun e'=>by unfold y0v at e';injection e' with _ e';exact e e') _
   unfold y0v at h1;rw [h1,hd.has y];constructor
   ·rintro ⟨j,hj,hy,hs⟩
    exact ⟨j,hj,hy,by unfold updO;rw [if_neg (fun e'=>e (by rw [hy,e']))];exact hs⟩
   ·rintro ⟨j,hj,hy,hs⟩
    refine ⟨j,hj,hy,?_⟩;unfold updO at hs;rw [if_neg (fun e'=>e (by rw [hy,e']))] at hs;exact hs
theorem ChM.new (w:World) (s K:Nat):ChM (w.alloc (.map #[] 0)) w.heap.size 0 s K (fun _=>none):=⟨_,World.ownsMap_made w _ _ _,fun k _=>by simp [DataW.atKey,chD],fun x=>by simp [Maps.has]⟩
theorem ChM.chg {Z:Fp} (h:ChM w mb N s K cb) (hc:Chg Z w w') (hb:¬ Z mb):ChM w' mb N s K cb:=by
 obtain ⟨D,ho,hd⟩:=h;exact ⟨D,hc.map ho hb,hd⟩
theorem ChM.lt (h:ChM w mb N s K cb):mb < w.heap.size:=by
 obtain ⟨D,ho,hd⟩:=h;exact ho.lt
theorem ChM.mono {N':Nat} (h:ChM w mb N s K cb) (hN:N<=N'):ChM w mb N' s K cb:=by
 obtain ⟨D,ho,hd⟩:=h;exact ⟨D,ho.mono hN,hd⟩
end
def w9e (w:World) (mb N s K:Nat) (cb:Nat->Option Nat) (k:Nat) (e:Ending) (w':World):Prop :=
 (∃ g,cb k=some g/\e=.returned (.pointer (some ⟨g,0,none⟩))/\w=w') \/
 (cb k=none/\e=.returned (.pointer (some ⟨w.heap.size,0,none⟩))/\ChM w' mb (N+1) s K (updO cb k (some w.heap.size))/\Blk w' w.heap.size 338 #[.slice none 0 0,.slice none 0 0,.slice none 0 0]/\Chg (fun j=>j=mb) w w')
theorem w0n {w:World} {mb N s K:Nat} {cb:Nat->Option Nat} (h:ChM w mb N s K cb) (k:Nat) (hk:k < K) (hs:s+32 * k < 9000000000) (hN:N < 1000000000) (vb:Nat) (hv:w.cell? ⟨vb,0,none⟩=some (.map (some mb))) :
  Calls Tryz.prog 236 #[.int .i64 ((s+32 * k:Nat):Int),.pointer (some ⟨vb,0,none⟩)] w (w9e w mb N s K cb k):=by
 have Ga:=h.look hk hs;have Gd:=World.block_lt_of_cell? _ _ hv;have Gc:=h.lt;cases hc:cb k with
 | some g =>
  rw [hc] at Ga;have Gb:(Instr.lookup 335 (.map (some mb)) (.int .i64 ((s+32 * k:Nat):Int)) false).run Tryz.prog w=.ok (.pointer (some ⟨g,0,none⟩)) w:=Ga;have HC:=hid hc;clear Ga hc h;generalize ((s+32 * k:Nat):Int)=v at *;go_enter Tryz.func236,Tryz.ntmps236
  go_wp2;go_ret;exact .inl ⟨g,HC.out,rfl,rfl⟩
 | none =>
  rw [hc] at Ga;have Gb:(Instr.lookup 335 (.map (some mb)) (.int .i64 ((s+32 * k:Nat):Int)) false).run Tryz.prog w=.ok (.pointer none) w:=Ga;have h1:=h.chg ((Chg.refl Fp.no w).alloc (.cells #[.slice none 0 0,.slice none 0 0,.slice none 0 0] 338)) (fun h=>h);obtain ⟨w2,r2,h2,g2⟩:=h1.put (by unfold maxLen;omega) hk hs w.heap.size;have HE:=hid (show ChM w2 mb (N+1) s K (updO cb k (some w.heap.size))/\Blk w2 w.heap.size 338 #[.slice none 0 0,.slice none 0 0,.slice none 0 0]/\Chg (fun j=>j=mb) w w2 from ⟨h2,(Blk.new w _ _).grown g2 (fun e=>by injection e with e;omega),((Chg.refl (fun j=>j=mb) w).alloc _).trans (z3f (Z:=fun j=>j=mb) g2 rfl) (Grew.refl _ _)⟩);have HC:=hid hc;clear Ga hc h h1 h2 g2;generalize ((s+32 * k:Nat):Int)=v at *;go_enter Tryz.func236,Tryz.ntmps236
  go_wp2;go_ret;exact .inr ⟨HC.out,rfl,HE.out.1,HE.out.2.1,HE.out.2.2⟩
end
section
open Go.RowKit Go.Maps
def relF (f:Nat->Option Nat) (l:List Nat):Nat->Option Nat:=l.foldl (fun g p=>updF g (pOff p) none) f
theorem x8p (f:Nat->Option Nat) (l:List Nat) (p:Nat):relF f (l++[p])=updF (relF f l) (pOff p) none:=by simp [relF]
theorem y5c:∀ (l:List Nat) (f:Nat->Option Nat) (o:Nat),o ∉ l.map pOff->relF f l o=f o
 | [],_,_,_=>rfl
 | p :: l,f,o,h=>by
  show relF (updF f (pOff p) none) l o=f o;rw [y5c l _ o (fun hh=>h (by simp at hh ⊢;exact .inr hh))];unfold updF;rw [if_neg (fun hh=>h (by simp [hh]))]
section
variable {a:DA} {L T s n K:Nat} {x:HA} {cs:Nat->CS} {f:Nat->Option Nat} {N m b0:Nat} {S:Fp} {cur:Nat->Nat} {w w':World}
theorem x4t (h:DS a L T s n K x cs f N m b0 S cur w) (A1:Option Addr) (n1 c1:Nat) (keep:List Nat) (h1:z0c w w.heap.size 1 A1 n1 (z0a keep)) (hA:∀ ad,A1=some ad->¬ x.fp ad.block) (hf:∀ p∈keep,f (pOff p)=some p) (hn:(keep.map pOff).Nodup) (hN:N+n1<=1000000000) (hn1:n1<=1000000) (v2:Value) :
  Calls Tryz.prog 125 #[.pointer (some ⟨x.h,0,none⟩),.slice A1 n1 c1,v2] w (y5s a L T s n K x cs (relF f keep) (N+n1) (m - n1) b0 S cur w (.tuple #[])):=by
 have HR:=hid h1;have Gk:=hid hA;have HF:=hid hf;have Gn:=hid hn;have Gm:=hid (show keep.length=n1 by have:=h1.1;simp [z0a] at this;omega);have Gd:Hid (DS a L T s n K x cs (relF f (keep.take 0)) (N+0) (m - 0) b0 S cur w/\Chg x.fp w w):=hid ⟨h,Chg.refl _ _⟩;clear h h1 hA hf hn;go_enter Tryz.func125,Tryz.ntmps125
 go_wp2;go_loopw [12] (fun i wr=>∃ (k:Nat),k<=n1/\i=.int .i64 k/\Hid (DS a L T s n K x cs (relF f (keep.take k)) (N+k) (m - k) b0 S cur wr/\Chg x.fp w wr)) (fun i _=>n1 - (Go.RowKit.intOf i).toNat)
 case atStart=>exact ⟨0,Nat.zero_le _,rfl,Gd⟩
 case round =>
  clear Gd;obtain ⟨k,hk,rfl,H⟩:=hrel;by_cases hlt:k < n1
  ·obtain ⟨hl,b,Gw,hA,Gt,f0⟩:=z6w (H.out.2.reads HR.out (nL _) Gk.out) hlt
   subst hA;have Gj:pOff keep[k] ∉ (keep.take k).map pOff:=fun hh=>by
    obtain ⟨q,hq,he⟩:=List.mem_map.1 hh;obtain ⟨j,hj,Gr⟩:=List.getElem_of_mem hq;have Gq:j < k:=by simp at hj;omega
    have Gp:pOff keep[j]=pOff keep[k]:=by rw [<- he,<- Gr];simp
    exact (List.pairwise_iff_getElem.1 Gn.out) j k (by simp;omega) (by simpa using hl) Gq (by simpa using Gp)
   have Gc:relF f (keep.take k) (pOff keep[k])=some keep[k]:=by rw [y5c _ _ _ Gj];exact HF.out _ (List.getElem_mem hl)
   have Ga:=hid (y7c H.out.1.hs keep[k]);rw [decide_eq_true Gc] at Ga;have Gg:Hid (∀ W,Blw wr W->Calls Tryz.prog 245 #[.pointer (some ⟨x.h,0,none⟩),.int .u64 (keep[k]:Int)] W (y5s a L T s n K x cs (relF f (keep.take (k+1))) (N+(k+1)) (m - (k+1)) b0 S cur W (.tuple #[]))):=hid (fun W hW=>by
    have h2:=x0b (H.out.1.below hW) keep[k] Gc oM;rw [<- x8p,<- List.take_succ_eq_append_getElem hl,show m - k - 1=m - (k+1) by omega] at h2;exact h2)
   clear Gc Gj;have HC:=hid H.out.2;generalize keep[k]=p at *;have Gu:(0:Int)<=(k:Int):=oM;have Gv:(k:Int) < (n1:Int):=oM;go_wp2_with (go_at_call 235;refine Ga.out.mono ?_;rintro e w2 ⟨rfl,Gb⟩;refine stop ?_)
   unfold Stop;have Gf:=hid (Gg.out w2 Gb);have Gl:=hid Gb;clear Gb Gg Ga H;unfold y5s at Gf;go_wp2_with (go_at_call 245;refine Gf.out.mono ?_;rintro e w3 ⟨rfl,Gi,Gh⟩;have Ge:Hid (DS a L T s n K x cs (relF f (keep.take (k+1))) (N+(k+1)) (m - (k+1)) b0 S cur w3/\Chg x.fp w w3):=hid ⟨Gi,(HC.out.below Gl.out).trans Gh (Grew.refl _ _)⟩;clear Gi Gh)
   go_roundw
   case rel =>
    first
     | exact ⟨k+1,oM,by go_num,Ge⟩
     | (
       repeat apply Exists.intro
       refine ⟨?_,rfl⟩;exact ⟨k+1,oM,by go_num,Ge⟩)
   case measure=>simp [Go.RowKit.intOf];omega
  ·have Gs:n1=k:=oM
   subst Gs;have HE:Hid (DS a L T s n K x cs (relF f keep) (N+n1) (m - n1) b0 S cur wr/\Chg x.fp w wr):=hid (by
    have h:=H.out;rw [List.take_of_length_le (by rw [Gm.out];exact nL _)] at h;exact h)
   go_wp2;go_end0;exact ⟨rfl,HE.out.1,HE.out.2⟩
end
end
section
open Go.RowKit Go.Maps
def updX {α:Type} (f:Nat->α) (k:Nat) (v:α):Nat->α:=fun j=>if j=k then v else f j
theorem z1j {α:Type} (f:Nat->α) (k:Nat) (v:α):updX f k v k=v:=by simp [updX]
theorem z1d {α:Type} {f:Nat->α} {k j:Nat} {v:α} (h:j≠k):updX f k v j=f j:=by simp [updX,h]
structure CI where
 cb:Nat->Option Nat
 tA:Nat->Option Addr
 tc:Nat->Nat
 kA:Nat->Option Addr
 kc:Nat->Nat
 dA:Nat->Option Addr
 dc:Nat->Nat
 tl:Nat->List (Nat × Nat)
 dl:Nat->List Nat
def CI.tv (c:CI) (k:Nat):Value := .slice (c.tA k) (c.tl k).length (c.tc k)
def CI.kv (c:CI) (k:Nat):Value := .slice (c.kA k) (c.tl k).length (c.kc k)
def CI.dv (c:CI) (k:Nat):Value := .slice (c.dA k) (c.dl k).length (c.dc k)
structure ChI (w:World) (base mb N s K:Nat) (c:CI):Prop where
 map:ChM w mb N s K c.cb
 mbb:mb < base
 blk:∀ k g,k < K->c.cb k=some g->Blk w g 338 #[c.tv k,c.kv k,c.dv k]/\base<=g
 o1:∀ k,k < K->w.ownsRow base 3 1 (c.tv k) (c.tl k).length (z0x ((c.tl k).map (·.1)))
 o2:∀ k,k < K->w.ownsRow base 5 1 (c.kv k) (c.tl k).length (u8s ((c.tl k).map (·.2)))
 o3:∀ k,k < K->w.ownsRow base 3 1 (c.dv k) (c.dl k).length (z0x (c.dl k))
 a1:∀ k k' g,k < K->k' < K->(c.tv k).ownBlock=some g->(c.tv k').ownBlock=some g->k=k'
 a2:∀ k k' g,k < K->k' < K->(c.kv k).ownBlock=some g->(c.kv k').ownBlock=some g->k=k'
 a3:∀ k k' g,k < K->k' < K->(c.dv k).ownBlock=some g->(c.dv k').ownBlock=some g->k=k'
 a13:∀ k k' g,k < K->k' < K->(c.tv k).ownBlock=some g->(c.dv k').ownBlock≠some g
 ac:∀ k k' g,k < K->k' < K->c.cb k=some g->c.cb k'=some g->k=k'
 none_:∀ k,k < K->c.cb k=none->c.tl k=[]/\c.dl k=[]/\c.tv k=.slice none 0 0/\c.kv k=.slice none 0 0/\c.dv k=.slice none 0 0
section
variable {w w':World} {base mb N s K:Nat} {c:CI} {k g:Nat}
theorem ChI.chg {Z:Fp} (h:ChI w base mb N s K c) (hc:Chg Z w w') (hZ:∀ g,base<=g->¬ Z g) (hm:¬ Z mb):ChI w' base mb N s K c :=
 {h with
  map:=h.map.chg hc hm
  blk:=fun k g hk hg=>⟨hc.blk (h.blk k g hk hg).1 (hZ _ (h.blk k g hk hg).2),(h.blk k g hk hg).2⟩
  o1:=fun k hk=>hc.own (h.o1 k hk) (fun g hg=>hZ _ ((h.o1 k hk).lt g hg).1)
  o2:=fun k hk=>hc.own (h.o2 k hk) (fun g hg=>hZ _ ((h.o2 k hk).lt g hg).1)
  o3:=fun k hk=>hc.own (h.o3 k hk) (fun g hg=>hZ _ ((h.o3 k hk).lt g hg).1) }
theorem ChI.below (h:ChI w base mb N s K c) (hb:Blw w w'):ChI w' base mb N s K c:=h.chg (Chg.of_below (S:=Fp.no) hb) (fun _ _ h=>h) (fun h=>h)
theorem ChI.made (h:ChI w base mb N s K c) (hk:k < K) (hn:c.cb k=none) (hb:base<=w.heap.size) (hm:ChM w' mb (N+1) s K (updO c.cb k (some w.heap.size))) (hB:Blk w' w.heap.size 338 #[.slice none 0 0,.slice none 0 0,.slice none 0 0]) (hc:Chg (fun j=>j=mb) w w') :
  ChI w' base mb (N+1) s K { c with cb:=updO c.cb k (some w.heap.size) }:=by
 have Ga:∀ {t:TypeId} {e:TypeId} {size n:Nat} {v:Value} {xs:List Value} {g:Nat},w.ownsRow base e size v n xs->v.ownBlock=some g->¬ g=mb:=fun {_ _ _ _ _ _ g} ho hg e=>by
  obtain ⟨D,hD,_⟩:=h.map;exact z2q hD ho (by rw [hg,e])
 obtain ⟨n1,n2,n3,n4,n5⟩:=h.none_ k hk hn;refine ⟨hm,h.mbb,fun j g' hj hg'=>?_,fun j hj=>hc.own (h.o1 j hj) (fun g hg=>Ga (t:=3) (h.o1 j hj) hg),fun j hj=>hc.own (h.o2 j hj) (fun g hg=>Ga (t:=3) (h.o2 j hj) hg),fun j hj=>hc.own (h.o3 j hj) (fun g hg=>Ga (t:=3) (h.o3 j hj) hg),h.a1,h.a2,h.a3,h.a13,fun i j g' hi hj h1 h2=>?_,fun j hj hj0=>?_⟩
 ·dsimp only at hg'
  unfold updO at hg';by_cases e:j=k
  ·rw [if_pos e] at hg'
   injection hg' with hg'
   subst hg';subst e;refine ⟨?_,hb⟩;show Blk w' w.heap.size _ #[c.tv j,c.kv j,c.dv j];rw [n3,n4,n5];exact hB
  ·rw [if_neg e] at hg'
   obtain ⟨b1,b2⟩:=h.blk j g' hj hg';refine ⟨hc.blk b1 (fun e'=>?_),b2⟩;obtain ⟨D,hD,_⟩:=h.map;exact z4e hD b1 e'
 ·dsimp only at h1 h2
  unfold updO at h1 h2;by_cases e1:i=k
  ·by_cases e2:j=k
   ·rw [e1,e2]
   ·rw [if_pos e1] at h1
    rw [if_neg e2] at h2;injection h1 with h1
    have:=(h.blk j g' hj h2).1.lt;omega
  ·by_cases e2:j=k
   ·rw [if_neg e1] at h1
    rw [if_pos e2] at h2;injection h2 with h2
    have:=(h.blk i g' hi h1).1.lt;omega
   ·rw [if_neg e1] at h1
    rw [if_neg e2] at h2;exact h.ac i j g' hi hj h1 h2
 ·dsimp only at hj0
  unfold updO at hj0;by_cases e:j=k
  ·rw [if_pos e] at hj0;cases hj0
  ·rw [if_neg e] at hj0
   exact h.none_ j hj hj0
def CI.take (c:CI) (k:Nat) (A2:Option Addr) (c2:Nat) (A4:Option Addr) (c4:Nat) (i kd:Nat):CI :=
 { c with tA:=updX c.tA k A2,tc:=updX c.tc k c2,kA:=updX c.kA k A4,kc:=updX c.kc k c4,tl:=updX c.tl k (c.tl k++[(i,kd)]) }
theorem ChI.take {w1 w2 w3 w4:World} {A2 A4:Option Addr} {n2 c2 n4 c4 i kd:Nat} (h:ChI w base mb N s K c) (hk:k < K) (hg:c.cb k=some g)
  (e1:Chg Fp.no w w1) (g2:w1.grownBy w2 (c.tv k).ownBlock) (r2:w2.ownsRow base 3 1 (.slice A2 n2 c2) n2 (z0x ((c.tl k).map (·.1))++[.int .i64 i])) (hn2:n2=(c.tl k).length+1) (b2:(Value.slice A2 n2 c2).ownBlock=(c.tv k).ownBlock\/(Value.slice A2 n2 c2).ownBlock=some w1.heap.size)
  (e3:Chg Fp.no w2 w3) (g4:w3.grownBy w4 (c.kv k).ownBlock) (r4:w4.ownsRow base 5 1 (.slice A4 n4 c4) n4 (u8s ((c.tl k).map (·.2))++[.int .u8 kd])) (hn4:n4=(c.tl k).length+1) (b4:(Value.slice A4 n4 c4).ownBlock=(c.kv k).ownBlock\/(Value.slice A4 n4 c4).ownBlock=some w3.heap.size) :
  ChI ((w4.setCell ⟨g,0,none⟩ (.slice A2 n2 c2)).setCell ⟨g,1,none⟩ (.slice A4 n4 c4)) base mb N s K (c.take k A2 c2 A4 c4 i kd)/\Chg (fun j=>base<=j) w ((w4.setCell ⟨g,0,none⟩ (.slice A2 n2 c2)).setCell ⟨g,1,none⟩ (.slice A4 n4 c4)):=by
 obtain ⟨Gc,Gm⟩:=h.blk k g hk hg;have z2:(w2.heap.size) ≥ w1.heap.size:=g2.size;have z1:=e1.size;have z3:=e3.size;have hZ:Chg (fun j=>j=g\/(c.tv k).ownBlock=some j\/(c.kv k).ownBlock=some j) w ((w4.setCell ⟨g,0,none⟩ (.slice A2 n2 c2)).setCell ⟨g,1,none⟩ (.slice A4 n4 c4)):=by
  have q1:Chg (fun j=>j=g\/(c.tv k).ownBlock=some j\/(c.kv k).ownBlock=some j) w w1:=e1.mono (fun _ h=>h.elim);have q2:=q1.grown g2 (fun g' hg' => .inl (.inr (.inl hg')));have q3:=q2.trans e3 (fun _ h=>h.elim);have q4:=q3.grown g4 (fun g' hg' => .inl (.inr (.inr hg')));exact (q4.setCell (.inl (.inl rfl)) _).setCell (.inl (.inl rfl)) _
 obtain ⟨D,hD,_⟩:=id h.map;have nt:∀ j,j < K->j≠k->∀ g',(c.tv j).ownBlock=some g'->¬ (g'=g\/(c.tv k).ownBlock=some g'\/(c.kv k).ownBlock=some g'):=fun j hj Ge g' hg' hz=>by
  rcases hz with e | e | e
  ·subst e;exact z0i (h.o1 j hj) Gc (by decide) hg'
  ·exact Ge (h.a1 j k g' hj hk hg' e)
  ·rcases z1f (h.o1 j hj) (h.o2 k hk) (by decide) with e2 | e2
   ·rw [e2] at hg';cases hg'
   ·exact e2 (by rw [hg',e])
 have nk:∀ j,j < K->j≠k->∀ g',(c.kv j).ownBlock=some g'->¬ (g'=g\/(c.tv k).ownBlock=some g'\/(c.kv k).ownBlock=some g'):=fun j hj Ge g' hg' hz=>by
  rcases hz with e | e | e
  ·subst e;exact z0i (h.o2 j hj) Gc (by decide) hg'
  ·rcases z1f (h.o2 j hj) (h.o1 k hk) (by decide) with e2 | e2
   ·rw [e2] at hg';cases hg'
   ·exact e2 (by rw [hg',e])
  ·exact Ge (h.a2 j k g' hj hk hg' e)
 have nd:∀ j,j < K->∀ g',(c.dv j).ownBlock=some g'->¬ (g'=g\/(c.tv k).ownBlock=some g'\/(c.kv k).ownBlock=some g'):=fun j hj g' hg' hz=>by
  rcases hz with e | e | e
  ·subst e;exact z0i (h.o3 j hj) Gc (by decide) hg'
  ·exact h.a13 k j g' hk hj e hg'
  ·rcases z1f (h.o3 j hj) (h.o2 k hk) (by decide) with e2 | e2
   ·rw [e2] at hg';cases hg'
   ·exact e2 (by rw [hg',e])
 have Ga:∀ g',g' < w.heap.size->(Value.slice A2 n2 c2).ownBlock=some g'->(c.tv k).ownBlock=some g':=fun g' hlt hg'=>by
  rcases b2 with e | e
  ·rw [<- e];exact hg'
  ·rw [e] at hg';injection hg' with hg';omega
 have Gb:∀ g',g' < w.heap.size->(Value.slice A4 n4 c4).ownBlock=some g'->(c.kv k).ownBlock=some g':=fun g' hlt hg'=>by
  rcases b4 with e | e
  ·rw [<- e];exact hg'
  ·rw [e] at hg';injection hg' with hg';omega
 have Gu:=Gc.lt;have k1:=e1.blk Gc (fun h=>h);have k2:=k1.grown g2 (fun e=>z0i (h.o1 k hk) Gc (by decide) e.symm);have k3:=e3.blk k2 (fun h=>h);have k4:=k3.grown g4 (fun e=>z0i (h.o2 k hk) Gc (by decide) e.symm);have k5:=(k4.set_ 0 (.slice A2 n2 c2)).set_ 1 (.slice A4 n4 c4);have Gg:∀ u,(Value.slice A2 n2 c2).ownBlock=some u->u≠g:=fun u hu e=>by
  rw [e] at hu;exact z0i r2 k2 (by decide) hu
 have Gh:∀ u,(Value.slice A4 n4 c4).ownBlock=some u->u≠g:=fun u hu e=>by
  rw [e] at hu;exact z0i r4 k4 (by decide) hu
 have r3:=e3.own r2 (fun _ _ h=>h);have Gs:=e3.own ((e1.own (h.o2 k hk) (fun _ _ h=>h)).kept g2 (z1f (h.o2 k hk) (h.o1 k hk) (by decide))) (fun _ _ h=>h);have Gt:=r3.kept g4 (z1f r3 Gs (by decide));have s2:=ownsRow_setCell_other (ownsRow_setCell_other Gt (a:=⟨g,0,none⟩) (fun e=>Gg g e rfl) (.slice A2 n2 c2)) (a:=⟨g,1,none⟩) (fun e=>Gg g e rfl) (.slice A4 n4 c4);have s4:=ownsRow_setCell_other (ownsRow_setCell_other r4 (a:=⟨g,0,none⟩) (fun e=>Gh g e rfl) (.slice A2 n2 c2)) (a:=⟨g,1,none⟩) (fun e=>Gh g e rfl) (.slice A4 n4 c4);have Gi:(c.take k A2 c2 A4 c4 i kd).tv k=.slice A2 n2 c2:=by
  show Value.slice (updX c.tA k A2 k) (updX c.tl k (c.tl k++[(i,kd)]) k).length (updX c.tc k c2 k)=_;rw [z1j,z1j,z1j,List.length_append,hn2];rfl
 have Gk:(c.take k A2 c2 A4 c4 i kd).kv k=.slice A4 n4 c4:=by
  show Value.slice (updX c.kA k A4 k) (updX c.tl k (c.tl k++[(i,kd)]) k).length (updX c.kc k c4 k)=_;rw [z1j,z1j,z1j,List.length_append,hn4];rfl
 have Gd:∀ j,j≠k->(c.take k A2 c2 A4 c4 i kd).tv j=c.tv j:=fun j hj=>by
  show Value.slice (updX c.tA k A2 j) (updX c.tl k (c.tl k++[(i,kd)]) j).length (updX c.tc k c2 j)=_;rw [z1d hj,z1d hj,z1d hj];rfl
 have Gf:∀ j,j≠k->(c.take k A2 c2 A4 c4 i kd).kv j=c.kv j:=fun j hj=>by
  show Value.slice (updX c.kA k A4 j) (updX c.tl k (c.tl k++[(i,kd)]) j).length (updX c.kc k c4 j)=_;rw [z1d hj,z1d hj,z1d hj];rfl
 have Gl:∀ j,j≠k->(c.take k A2 c2 A4 c4 i kd).tl j=c.tl j:=fun j hj=>z1d hj
 have Gn:(c.take k A2 c2 A4 c4 i kd).tl k=c.tl k++[(i,kd)]:=z1j _ _ _;have Gj:∀ j,(c.take k A2 c2 A4 c4 i kd).dv j=c.dv j:=fun j=>rfl
 have Gr:¬ (mb=g\/(c.tv k).ownBlock=some mb\/(c.kv k).ownBlock=some mb):=fun hz=>by
  rcases hz with e | e | e
  ·exact z4e hD Gc e.symm
  ·exact z2q hD (h.o1 k hk) e.symm
  ·exact z2q hD (h.o2 k hk) e.symm
 refine ⟨⟨h.map.chg hZ Gr,h.mbb,fun j g' hj hg'=>?_,fun j hj=>?_,fun j hj=>?_,fun j hj=>?_,fun i' j g' hi hj h1 h2=>?_,fun i' j g' hi hj h1 h2=>?_,h.a3,fun i' j g' hi hj h1=>?_,h.ac,fun j hj hj0=>?_⟩,hZ.mono (fun j hj=>?_)⟩
 ·by_cases e:j=k
  ·subst e
   have Gq:g'=g:=by
    have h9:c.cb j=some g':=hg';rw [hg] at h9;injection h9 with h9
    exact h9.symm
   subst Gq;refine ⟨?_,Gm⟩;rw [Gi,Gk,Gj];simpa using k5
  ·obtain ⟨b1,Gp⟩:=h.blk j g' hj hg'
   refine ⟨?_,Gp⟩;rw [Gd j e,Gf j e,Gj];refine hZ.blk b1 (fun hz=>?_);rcases hz with e' | e' | e'
   ·subst e';exact e (h.ac j k g' hj hk hg' hg)
   ·exact z0i (h.o1 k hk) b1 (by decide) e'
   ·exact z0i (h.o2 k hk) b1 (by decide) e'
 ·by_cases e:j=k
  ·subst e
   rw [Gi,Gn,List.map_append,show z0x ((c.tl j).map (·.1)++[(i,kd)].map (·.1))=z0x ((c.tl j).map (·.1))++[.int .i64 i] by simp [z0x],List.length_append];rw [show (c.tl j).length+[(i,kd)].length=n2 by rw [hn2];rfl];exact s2
  ·rw [Gd j e,Gl j e]
   exact hZ.own (h.o1 j hj) (nt j hj e)
 ·by_cases e:j=k
  ·subst e
   rw [Gk,Gn,List.map_append,show u8s ((c.tl j).map (·.2)++[(i,kd)].map (·.2))=u8s ((c.tl j).map (·.2))++[.int .u8 kd] by simp [u8s],List.length_append];rw [show (c.tl j).length+[(i,kd)].length=n4 by rw [hn4];rfl];exact s4
  ·rw [Gf j e,Gl j e]
   exact hZ.own (h.o2 j hj) (nk j hj e)
 ·exact hZ.own (h.o3 j hj) (nd j hj)
 ·by_cases e1':i'=k
  ·by_cases e2':j=k
   ·rw [e1',e2']
   ·rw [e1',Gi] at h1
    rw [Gd j e2'] at h2;exact absurd (h.a1 j k g' hj hk h2 (Ga g' ((h.o1 j hj).lt g' h2).2 h1)) e2'
  ·by_cases e2':j=k
   ·rw [e2',Gi] at h2
    rw [Gd i' e1'] at h1;exact absurd (h.a1 i' k g' hi hk h1 (Ga g' ((h.o1 i' hi).lt g' h1).2 h2)) e1'
   ·rw [Gd i' e1'] at h1
    rw [Gd j e2'] at h2;exact h.a1 i' j g' hi hj h1 h2
 ·by_cases e1':i'=k
  ·by_cases e2':j=k
   ·rw [e1',e2']
   ·rw [e1',Gk] at h1
    rw [Gf j e2'] at h2;exact absurd (h.a2 j k g' hj hk h2 (Gb g' ((h.o2 j hj).lt g' h2).2 h1)) e2'
  ·by_cases e2':j=k
   ·rw [e2',Gk] at h2
    rw [Gf i' e1'] at h1;exact absurd (h.a2 i' k g' hi hk h1 (Gb g' ((h.o2 i' hi).lt g' h1).2 h2)) e1'
   ·rw [Gf i' e1'] at h1
    rw [Gf j e2'] at h2;exact h.a2 i' j g' hi hj h1 h2
 ·intro h2
  rw [Gj] at h2;by_cases e1':i'=k
  ·rw [e1',Gi] at h1
   exact h.a13 k j g' hk hj (Ga g' ((h.o3 j hj).lt g' h2).2 h1) h2
  ·rw [Gd i' e1'] at h1
   exact h.a13 i' j g' hi hj h1 h2
 ·have Ge:j≠k:=fun e=>by
   have h9:c.cb j=none:=hj0;rw [e,hg] at h9;cases h9
  rw [Gl j Ge,Gd j Ge,Gf j Ge,Gj];exact h.none_ j hj hj0
 ·rcases hj with e | e | e
  ·rw [e];exact Gm
  ·exact ((h.o1 k hk).lt j e).1
  ·exact ((h.o2 k hk).lt j e).1
end
end
section
open Go.RowKit Go.Maps
section
variable {w w':World} {base mb N s K:Nat} {c:CI} {k g:Nat}
def CI.zero:CI:=⟨fun _=>none,fun _=>none,fun _=>0,fun _=>none,fun _=>0,fun _=>none,fun _=>0,fun _=>[],fun _=>[]⟩
theorem ChI.zero (hm:ChM w mb N s K (fun _=>none)) (hb:mb < base):ChI w base mb N s K CI.zero:=by
 refine ⟨hm,hb,fun k g hk hg=>?_,fun k _=>World.ownsRow_nil _ _ _ _,fun k _=>World.ownsRow_nil _ _ _ _,fun k _=>World.ownsRow_nil _ _ _ _,fun k k' g _ _ h=>?_,fun k k' g _ _ h=>?_,fun k k' g _ _ h=>?_,fun k k' g _ _ h=>?_,fun k k' g _ _ h=>?_,fun k _ _=>⟨rfl,rfl,rfl,rfl,rfl⟩⟩
 ·cases hg
 ·cases h
 ·cases h
 ·cases h
 ·cases h
 ·cases h
def CI.drop (c:CI) (k:Nat) (A2:Option Addr) (c2:Nat) (i:Nat):CI :=
 { c with dA:=updX c.dA k A2,dc:=updX c.dc k c2,dl:=updX c.dl k (c.dl k++[i]) }
theorem ChI.drop {w1 w2:World} {A2:Option Addr} {n2 c2 i:Nat} (h:ChI w base mb N s K c) (hk:k < K) (hg:c.cb k=some g)
  (e1:Chg Fp.no w w1) (g2:w1.grownBy w2 (c.dv k).ownBlock) (r2:w2.ownsRow base 3 1 (.slice A2 n2 c2) n2 (z0x (c.dl k)++[.int .i64 i])) (hn2:n2=(c.dl k).length+1) (b2:(Value.slice A2 n2 c2).ownBlock=(c.dv k).ownBlock\/(Value.slice A2 n2 c2).ownBlock=some w1.heap.size) :
  ChI (w2.setCell ⟨g,2,none⟩ (.slice A2 n2 c2)) base mb N s K (c.drop k A2 c2 i)/\Chg (fun j=>base<=j) w (w2.setCell ⟨g,2,none⟩ (.slice A2 n2 c2)):=by
 obtain ⟨Gc,Gi⟩:=h.blk k g hk hg;have z2:(w2.heap.size) ≥ w1.heap.size:=g2.size;have z1:=e1.size;have hZ:Chg (fun j=>j=g\/(c.dv k).ownBlock=some j) w (w2.setCell ⟨g,2,none⟩ (.slice A2 n2 c2)):=by
  have q1:Chg (fun j=>j=g\/(c.dv k).ownBlock=some j) w w1:=e1.mono (fun _ h=>h.elim);exact (q1.grown g2 (fun g' hg' => .inl (.inr hg'))).setCell (.inl (.inl rfl)) _
 obtain ⟨D,hD,_⟩:=id h.map;have nt:∀ j,j < K->∀ g',(c.tv j).ownBlock=some g'->¬ (g'=g\/(c.dv k).ownBlock=some g'):=fun j hj g' hg' hz=>by
  rcases hz with e | e
  ·subst e;exact z0i (h.o1 j hj) Gc (by decide) hg'
  ·exact h.a13 j k g' hj hk hg' e
 have nk:∀ j,j < K->∀ g',(c.kv j).ownBlock=some g'->¬ (g'=g\/(c.dv k).ownBlock=some g'):=fun j hj g' hg' hz=>by
  rcases hz with e | e
  ·subst e;exact z0i (h.o2 j hj) Gc (by decide) hg'
  ·rcases z1f (h.o2 j hj) (h.o3 k hk) (by decide) with e2 | e2
   ·rw [e2] at hg';cases hg'
   ·exact e2 (by rw [hg',e])
 have nd:∀ j,j < K->j≠k->∀ g',(c.dv j).ownBlock=some g'->¬ (g'=g\/(c.dv k).ownBlock=some g'):=fun j hj Ge g' hg' hz=>by
  rcases hz with e | e
  ·subst e;exact z0i (h.o3 j hj) Gc (by decide) hg'
  ·exact Ge (h.a3 j k g' hj hk hg' e)
 have Ga:∀ g',g' < w.heap.size->(Value.slice A2 n2 c2).ownBlock=some g'->(c.dv k).ownBlock=some g':=fun g' hlt hg'=>by
  rcases b2 with e | e
  ·rw [<- e];exact hg'
  ·rw [e] at hg';injection hg' with hg';omega
 have k1:=e1.blk Gc (fun h=>h);have k2:=k1.grown g2 (fun e=>z0i (h.o3 k hk) Gc (by decide) e.symm);have k5:=k2.set_ 2 (.slice A2 n2 c2);have Gf:∀ u,(Value.slice A2 n2 c2).ownBlock=some u->u≠g:=fun u hu e=>by
  rw [e] at hu;exact z0i r2 k2 (by decide) hu
 have s2:=ownsRow_setCell_other r2 (a:=⟨g,2,none⟩) (fun e=>Gf g e rfl) (.slice A2 n2 c2);have Gd:(c.drop k A2 c2 i).dv k=.slice A2 n2 c2:=by
  show Value.slice (updX c.dA k A2 k) (updX c.dl k (c.dl k++[i]) k).length (updX c.dc k c2 k)=_;rw [z1j,z1j,z1j,List.length_append,hn2];rfl
 have Gb:∀ j,j≠k->(c.drop k A2 c2 i).dv j=c.dv j:=fun j hj=>by
  show Value.slice (updX c.dA k A2 j) (updX c.dl k (c.dl k++[i]) j).length (updX c.dc k c2 j)=_;rw [z1d hj,z1d hj,z1d hj];rfl
 have Gh:∀ j,j≠k->(c.drop k A2 c2 i).dl j=c.dl j:=fun j hj=>z1d hj
 have Gl:(c.drop k A2 c2 i).dl k=c.dl k++[i]:=z1j _ _ _;have Gg:∀ j,(c.drop k A2 c2 i).tv j=c.tv j:=fun j=>rfl
 have Gj:∀ j,(c.drop k A2 c2 i).kv j=c.kv j:=fun j=>rfl
 have Gn:¬ (mb=g\/(c.dv k).ownBlock=some mb):=fun hz=>by
  rcases hz with e | e
  ·exact z4e hD Gc e.symm
  ·exact z2q hD (h.o3 k hk) e.symm
 refine ⟨⟨h.map.chg hZ Gn,h.mbb,fun j g' hj hg'=>?_,fun j hj=>hZ.own (h.o1 j hj) (nt j hj),fun j hj=>hZ.own (h.o2 j hj) (nk j hj),fun j hj=>?_,h.a1,h.a2,fun i' j g' hi hj h1 h2=>?_,fun i' j g' hi hj h1=>?_,h.ac,fun j hj hj0=>?_⟩,hZ.mono (fun j hj=>?_)⟩
 ·by_cases e:j=k
  ·subst e
   have Gm:g'=g:=by
    have h9:c.cb j=some g':=hg';rw [hg] at h9;injection h9 with h9
    exact h9.symm
   subst Gm;refine ⟨?_,Gi⟩;rw [Gg,Gj,Gd];simpa using k5
  ·obtain ⟨b1,Gk⟩:=h.blk j g' hj hg'
   refine ⟨?_,Gk⟩;rw [Gg,Gj,Gb j e];refine hZ.blk b1 (fun hz=>?_);rcases hz with e' | e'
   ·subst e';exact e (h.ac j k g' hj hk hg' hg)
   ·exact z0i (h.o3 k hk) b1 (by decide) e'
 ·by_cases e:j=k
  ·subst e
   rw [Gd,Gl,show z0x (c.dl j++[i])=z0x (c.dl j)++[.int .i64 i] by simp [z0x],List.length_append];rw [show (c.dl j).length+[i].length=n2 by rw [hn2];rfl];exact s2
  ·rw [Gb j e,Gh j e]
   exact hZ.own (h.o3 j hj) (nd j hj e)
 ·by_cases e1':i'=k
  ·by_cases e2':j=k
   ·rw [e1',e2']
   ·rw [e1',Gd] at h1
    rw [Gb j e2'] at h2;exact absurd (h.a3 j k g' hj hk h2 (Ga g' ((h.o3 j hj).lt g' h2).2 h1)) e2'
  ·by_cases e2':j=k
   ·rw [e2',Gd] at h2
    rw [Gb i' e1'] at h1;exact absurd (h.a3 i' k g' hi hk h1 (Ga g' ((h.o3 i' hi).lt g' h1).2 h2)) e1'
   ·rw [Gb i' e1'] at h1
    rw [Gb j e2'] at h2;exact h.a3 i' j g' hi hj h1 h2
 ·intro h2
  rw [Gg] at h1;by_cases e2':j=k
  ·rw [e2',Gd] at h2
   exact h.a13 i' k g' hi hk h1 (Ga g' ((h.o1 i' hi).lt g' h1).2 h2)
  ·rw [Gb j e2'] at h2
   exact h.a13 i' j g' hi hj h1 h2
 ·have Ge:j≠k:=fun e=>by
   have h9:c.cb j=none:=hj0;rw [e,hg] at h9;cases h9
  rw [Gh j Ge,Gb j Ge];exact h.none_ j hj hj0
 ·rcases hj with e | e
  ·rw [e];exact Gi
  ·exact ((h.o3 k hk).lt j e).1
theorem y5x (h:ChI w base mb N s K c) (hk:k < K) (hs:s+32 * k < 9000000000) (hN:N < 1000000000) (hb:base<=w.heap.size) (vb:Nat) (hv:w.cell? ⟨vb,0,none⟩=some (.map (some mb))) :
  Calls Tryz.prog 236 #[.int .i64 ((s+32 * k:Nat):Int),.pointer (some ⟨vb,0,none⟩)] w fun e w'=>∃ g c1,e=.returned (.pointer (some ⟨g,0,none⟩))/\ChI w' base mb (N+1) s K c1/\c1.cb k=some g/\c1.tl=c.tl/\c1.dl=c.dl/\(∀ j,j≠k->c1.cb j=c.cb j)/\Chg (fun j=>j=mb) w w':=by
 refine (w0n h.map k hk hs hN vb hv).mono ?_;rintro e w' (⟨g,hg,he,rfl⟩ | ⟨hn,he,hm,hB,hc⟩)
 ·exact ⟨g,c,he,{ h with map:=h.map.mono (Nat.le_succ N) },hg,rfl,rfl,fun _ _=>rfl,Chg.refl _ _⟩
 ·exact ⟨w.heap.size,{ c with cb:=updO c.cb k (some w.heap.size) },he,h.made hk hn hb hm hB hc,by simp [updO],rfl,rfl,fun j hj=>by simp [updO,hj],hc⟩
end
end
end Go.Proofs.YtfkjjoglnmeciaaGreatDoor
