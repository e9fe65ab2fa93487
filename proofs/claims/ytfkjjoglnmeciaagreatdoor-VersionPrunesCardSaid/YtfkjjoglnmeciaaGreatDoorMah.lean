/- part 8 -/
import Derived.Test.YtfkjjoglnmeciaaGreatDoorMae
set_option maxRecDepth 100000
set_option maxHeartbeats 16000000
namespace Go.Proofs.YtfkjjoglnmeciaaGreatDoor
open Go.Lib (hid)
section
open Go.RowKit
def SX (t:TypeId) (w wr:World) (g n:Nat) (ys:List Nat) (sz:Nat):Prop:=∃ cs,Blk wr g t cs/\cs.size=sz/\RowU cs ys/\ys.length=n/\Chg (fun k=>k=g) w wr
section
variable {t:TypeId} {w wr:World} {g n sz:Nat} {ys:List Nat}
theorem SX.len (h:SX t w wr g n ys sz):ys.length=n:=by obtain ⟨cs,h1,h2,h3,h4,h5⟩:=h;exact h4
theorem SX.lt (h:SX t w wr g n ys sz):g < wr.heap.size:=by obtain ⟨cs,h1,h2,h3,h4,h5⟩:=h;exact h1.lt
theorem SX.drewN (h:SX t w wr g n ys sz) (k:Nat):SX t w (wr.drewN k) g n ys sz:=by
 obtain ⟨cs,h1,h2,h3,h4,h5⟩:=h;exact ⟨cs,h1,h2,h3,h4,h5.drewN k⟩
theorem SX.drew (h:SX t w wr g n ys sz):SX t w wr.drew g n ys sz:=by
 obtain ⟨cs,h1,h2,h3,h4,h5⟩:=h;exact ⟨cs,h1,h2,h3,h4,h5.drew⟩
theorem SX.at_ (h:SX t w wr g n ys sz) {i:Nat} (hi:i < n):∃ x:Nat,wr.cell? ⟨g,i,none⟩=some (.int .u64 x)/\wr.frozen? ⟨g,i,none⟩=false/\Hid (x=gv ys i):=by
 obtain ⟨cs,h1,h2,h3,h4,h5⟩:=h;have Ga:i < ys.length:=oM;exact ⟨ys[i],by rw [h1.cell];exact h3.2 _ Ga,h1.frozen i,hid (x7d Ga).symm⟩
theorem SX.swap (h:SX t w wr g n ys sz) {i j x y:Nat} (hi:i < n) (hj:j < n) (_:wr.cell? ⟨g,i,none⟩=some (.int .u64 x)) (_:wr.cell? ⟨g,j,none⟩=some (.int .u64 y)) (ex:x=gv ys i) (ey:y=gv ys j) :
  SX t w ((wr.setCell ⟨g,i,none⟩ (.int .u64 y)).setCell ⟨g,j,none⟩ (.int .u64 x)) g n (sw ys i j) sz:=by
 obtain ⟨cs,h1,h2,h3,h4,h5⟩:=h;have i1:i < ys.length:=oM;have j1:j < ys.length:=oM;subst ex;subst ey;exact ⟨_,(h1.set_ i _).set_ j _,by simpa using h2,(h3.set i _ i1).set j _ (by rw [List.length_set];exact j1),by rw [w8t];exact h4,(h5.setCell (p:=⟨g,i,none⟩) (.inl rfl) _).setCell (p:=⟨g,j,none⟩) (.inl rfl) _⟩
theorem SX.mid (h:SX t w wr g n ys sz) {i j:Nat} (hj:j < n) (u:Value):∃ v,(wr.setCell ⟨g,i,none⟩ u).cell? ⟨g,j,none⟩=some v:=by
 obtain ⟨cs,h1,h2,h3,h4,h5⟩:=h;have j1:j < ys.length:=oM;have h:=(h1.set_ i u).cell j;have hs:j < (cs.setIfInBounds i u).size:=by have:=h3.1;simp;omega
 exact ⟨_,h.trans (Array.getElem?_eq_getElem hs)⟩
theorem SX.self (h:SX t w wr g n ys sz):SX t wr wr g n ys sz:=by
 obtain ⟨cs,h1,h2,h3,h4,h5⟩:=h;exact ⟨cs,h1,h2,h3,h4,Chg.refl _ _⟩
theorem SX.trans {w':World} {zs:List Nat} (h:SX t w wr g n ys sz) (k:SX t wr w' g n zs sz):SX t w w' g n zs sz:=by
 obtain ⟨_,_,_,_,_,h5⟩:=h;obtain ⟨cs,h1,h2,h3,h4,k5⟩:=k;exact ⟨cs,h1,h2,h3,h4,h5.trans k5 (Grew.refl _ _)⟩
theorem SX.other (h:SX t w wr g n ys sz) {s:Nat} (hs:w.heap.size<=s) (hg:s≠g) (u:Value):SX t w (wr.setCell ⟨s,0,none⟩ u) g n ys sz:=by
 obtain ⟨cs,h1,h2,h3,h4,h5⟩:=h;have hc:Chg (fun j=>j=s) wr (wr.setCell ⟨s,0,none⟩ u):=(Chg.refl (fun j=>j=s) wr).setCell (p:=⟨s,0,none⟩) (.inl rfl) u;exact ⟨cs,hc.blk h1 (fun e=>hg e.symm),h2,h3,h4,h5.setCell (p:=⟨s,0,none⟩) (.inr hs) u⟩
theorem SX.alloc (h:SX t w w g n ys sz) (o:Obj):SX t w (w.alloc o) g n ys sz:=by
 obtain ⟨cs,h1,h2,h3,h4,h5⟩:=h;exact ⟨cs,h1.alloc _,h2,h3,h4,h5.below ((Below.refl _ w).alloc (nL _) _)⟩
end
def SY (t:TypeId) (w wr:World) (g n sz a b:Nat) (ys0:List Nat) (P:List Nat->Prop):Prop:=∃ ys,SX t w wr g n ys sz/\PI a b ys0 ys/\P ys
def RetX (t:TypeId) (w:World) (g n sz a b:Nat) (ys0:List Nat) (P:List Nat->Prop) (e:Ending) (w':World):Prop:=e=.returned (.tuple #[])/\SY t w w' g n sz a b ys0 P
theorem Srt.mono {a k b:Nat} {ys:List Nat} (h:Srt a k ys) (hb:b<=k):Srt a b ys:=fun p q h1 h2 h3=>h p q h1 h2 oM
def LtL (a k:Nat) (ys:List Nat):Prop:=∀ i,a < i->i < k->gv ys i < gv ys a
def GeR (a q b:Nat) (ys:List Nat):Prop:=∀ i,q < i->i < b->gv ys a<=gv ys i
def LeL (a k:Nat) (ys:List Nat):Prop:=∀ i,a<=i->i < k->gv ys i<=gv ys a
def GtR (a q b:Nat) (ys:List Nat):Prop:=∀ i,q < i->i < b->gv ys a < gv ys i
theorem LeL.one (a:Nat) (ys:List Nat):LeL a (a+1) ys:=by
 intro i h1 h2;obtain rfl:i=a:=oM;exact nL _
theorem LtL.snoc {a k:Nat} {ys:List Nat} (h:LtL a k ys) (hk:gv ys k < gv ys a):LtL a (k+1) ys:=by
 intro i h1 h2;by_cases e:i=k
 ·subst e;exact hk
 ·exact h i h1 oM
theorem LeL.snoc {a k:Nat} {ys:List Nat} (h:LeL a k ys) (hk:gv ys k<=gv ys a):LeL a (k+1) ys:=by
 intro i h1 h2;by_cases e:i=k
 ·subst e;exact hk
 ·exact h i h1 oM
theorem GeR.cons {a q b:Nat} {ys:List Nat} (h:GeR a q b ys) (hk:gv ys a<=gv ys q):GeR a (q - 1) b ys:=by
 intro i h1 h2;by_cases e:i=q
 ·subst e;exact hk
 ·exact h i oM h2
theorem GtR.cons {a q b:Nat} {ys:List Nat} (h:GtR a q b ys) (hk:gv ys a < gv ys q):GtR a (q - 1) b ys:=by
 intro i h1 h2;by_cases e:i=q
 ·subst e;exact hk
 ·exact h i oM h2
theorem x1u {a k q b:Nat} {ys:List Nat} (h1:LtL a k ys) (h2:GeR a q b ys) (ha:a<=q) (hq:q < k) (hk:k<=b) (hl:b<=ys.length):z4a a b q (sw ys q a):=by
 have i1:q < ys.length:=oM;have j1:a < ys.length:=oM;constructor
 ·intro i e1 e2
  rw [z3k i1 j1];by_cases e:i=a
  ·subst e;rw [z5r i1 j1];exact h1 q e2 hq
  ·rw [z1l i1 j1 oM e];exact h1 i oM oM
 ·intro i e1 e2
  rw [z3k i1 j1,z1l i1 j1 oM oM];exact h2 i e1 e2
theorem y7p {a k q b:Nat} {ys:List Nat} (h1:LtL a k ys) (h2:GeR a q b ys) (ha:a < k) (hq:k<=q) (k1:gv ys a<=gv ys k) (k2:gv ys q < gv ys a) (hb:q < b) (hl:b<=ys.length):LtL a (k+1) (sw ys k q)/\GeR a (q - 1) b (sw ys k q):=by
 have i1:k < ys.length:=oM;have j1:q < ys.length:=oM;have ne:k≠q:=fun e=>by subst e;omega
 constructor
 ·intro i e1 e2
  rw [z1l (k:=a) i1 j1 oM oM];by_cases e:i=k
  ·subst e;rw [z3k i1 j1];exact k2
  ·rw [z1l i1 j1 e oM];exact h1 i e1 oM
 ·intro i e1 e2
  rw [z1l (k:=a) i1 j1 oM oM];by_cases e:i=q
  ·subst e;rw [z5r i1 j1];exact k1
  ·rw [z1l i1 j1 oM e];exact h2 i oM e2
theorem w8n {a k q b:Nat} {ys:List Nat} (h1:LeL a k ys) (h2:GtR a q b ys) (hq:q < k):x5l a b k ys:=⟨h1,fun i e1 e2=>h2 i oM e2⟩
theorem w6b {a k q b:Nat} {ys:List Nat} (h1:LeL a k ys) (h2:GtR a q b ys) (ha:a < k) (hq:k<=q) (k1:gv ys a < gv ys k) (k2:gv ys q<=gv ys a) (hb:q < b) (hl:b<=ys.length):LeL a (k+1) (sw ys k q)/\GtR a (q - 1) b (sw ys k q)/\gv (sw ys k q) a=gv ys a:=by
 have i1:k < ys.length:=oM;have j1:q < ys.length:=oM;have ne:k≠q:=fun e=>by subst e;omega
 have ea:gv (sw ys k q) a=gv ys a:=z1l (k:=a) i1 j1 oM oM;refine ⟨?_,?_,ea⟩
 ·intro i e1 e2
  rw [ea];by_cases e:i=k
  ·subst e;rw [z3k i1 j1];exact k2
  ·rw [z1l i1 j1 e oM];exact h1 i e1 oM
 ·intro i e1 e2
  rw [ea];by_cases e:i=q
  ·subst e;rw [z5r i1 j1];exact k1
  ·rw [z1l i1 j1 oM e];exact h2 i oM e2
end
section
open Go.RowKit
theorem x3x (x y:Nat) (w:World):Calls Tryz.prog 257 #[.int .u64 x,.int .u64 y] w fun e w'=>e=.returned (.bool (decide (x < y)))/\w'=w:=by
 go_enter Tryz.func257,Tryz.ntmps257
 go_wp2;all_goals (go_ret;exact ⟨rfl,rfl⟩)
theorem z5j (x y:Nat):∃ bb,(bb=decide (x < y))/\Hid (∀ W:World,Calls Tryz.prog 257 #[.int .u64 x,.int .u64 y] W fun e w'=>e=.returned (.bool bb)/\w'=W):=⟨_,rfl,fun W=>x3x x y W⟩
theorem x7k (g n cap sz a b:Nat) (ys0:List Nat) (w:World) (h:SX 32 w w g n ys0 sz) (hab:a<=b) (hb:b<=n) (hn:n<=1000000) (hc:n<=cap) (hcm:cap<=9223372036854775807) :
  Calls Tryz.prog 251 #[.slice (some ⟨g,0,none⟩) n cap,.int .i64 a,.int .i64 b] w (RetX 32 w g n sz a b ys0 (Srt a b)):=by
 have H:=hid h;clear h;go_enter Tryz.func251,Tryz.ntmps251
 go_wp2;go_loopw [6] (fun i wr=>∃ (k:Nat),a+1<=k/\k<=b+1/\i=.int .i64 k/\Hid (SY 32 w wr g n sz a b ys0 (Srt a k))) (fun i _=>b+1 - (RowKit.intOf i).toNat)
 case atStart=>exact ⟨a+1,oM,oM,by go_num,hid ⟨ys0,H.out,PI.refl _ _ _,Srt.one _ _⟩⟩
 case round =>
  clear H;obtain ⟨k,Gd,hk,rfl,H⟩:=hrel;by_cases hlt:k < b
  ·go_wp2
   go_loopw [7] (fun j wr=>∃ (q:Nat),a<=q/\q<=k/\j=.int .i64 q/\Hid (SY 32 w wr g n sz a b ys0 (InsO a k q))) (fun j _=>(RowKit.intOf j).toNat)
   case atStart=>exact ⟨k,oM,nL _,rfl,by
    obtain ⟨ys,h1,h2,h3⟩:=H.out;exact hid ⟨ys,h1,h2,InsO.start h3⟩⟩
   case round =>
    clear H;obtain ⟨q,Ge,hq,rfl,HY⟩:=hrel;obtain ⟨ys,HP,HO,H⟩:∃ ys,Hid (PI a b ys0 ys)/\Hid (InsO a k q ys)/\Hid (SX 32 w wr g n ys sz):=by
     obtain ⟨ys,h1,h2,h3⟩:=HY.out;exact ⟨ys,hid h2,hid h3,hid h1⟩
    clear HY;by_cases hq0:q=a
    ·subst hq0
     have e5:decide ((q:Int) < (q:Int))=false:=dF;go_wp2;go_quiet (fail)
     have H1:=hid (H.out.drewN nq);go_wp2;go_roundw
     case rel=>exact ⟨k+1,oM,oM,by go_num,hid ⟨ys,H1.out,HP.out,HO.out.first⟩⟩
     case measure=>simp [RowKit.intOf];omega
    ·obtain ⟨q',rfl⟩:∃ q',q=q'+1:=⟨q - 1,oM⟩
     have e1:(a:Int) < (q':Int)+1:=oM;have e2:(q':Int)+1 < (n:Int):=oM;have e3:(q':Int) < (n:Int):=oM;have e5:decide ((a:Int) < (q':Int)+1)=true:=dT;have e6:((q':Int)+1).toNat=q'+1:=oM;have e8:IntKind.i64.wrap (q':Int)=(q':Int):=by rw [IntKind.wrap_i64];omega
     have e9:(0:Int)<=(q':Int)+1:=oM;go_wp2;obtain ⟨x1,c1,z1,d1⟩:=H.out.at_ (i:=(q'+1)) oM;obtain ⟨x2,c2,z2,d2⟩:=H.out.at_ (i:=q') oM;obtain ⟨bb,Gb,Gc⟩:=z5j x1 x2;rw [d1.out,d2.out] at Gb;have Ga:=hid Gb;clear Gb;clear d1 d2;go_quiet ((go_at_call 257;exact Calls.quiet_of_same (Gc.out _)))
     have H1:=hid (H.out.drewN nq);clear c1 c2 z1 z2 H Gc;cases bb
     ·have HB:=hid (Nat.not_lt.mp (of_decide_eq_false Ga.out.symm))
      clear Ga;go_wp2;go_roundw
      case rel=>exact ⟨k+1,oM,oM,by go_num,hid ⟨ys,H1.out,HP.out,HO.out.stop oM HB.out oM⟩⟩
      case measure=>simp [RowKit.intOf];omega
     ·have HB:=hid (of_decide_eq_true Ga.out.symm)
      clear Ga;have H:=H1;clear H1;generalize wr.drewN nq=wr at *;obtain ⟨x1,c1,z1,d1⟩:=H.out.at_ (i:=(q'+1)) oM;obtain ⟨x2,c2,z2,d2⟩:=H.out.at_ (i:=q') oM;obtain ⟨x3,c3⟩:=H.out.mid (i:=(q'+1)) (j:=q') oM (.int .u64 x2);have H1:=hid (H.out.swap oM oM c1 c2 d1.out d2.out).drew;clear d1 d2;have HY:Hid (SY 32 w _ g n sz a b ys0 (InsO a k q')):=hid ⟨_,H1.out,HP.out.step oM oM (by have:=H.out.len;omega),HO.out.step oM HB.out oM (by have:=H.out.len;omega)⟩;clear H H1 HP HO HB;go_wp2;go_region;go_wp2;exact ⟨⟨q',oM,oM,rfl,HY⟩,by simp [RowKit.intOf]⟩
  ·go_wp2
   go_end0;refine ⟨rfl,?_⟩;obtain ⟨ys,h1,h2,h3⟩:=H.out;exact ⟨ys,h1,h2,h3.mono oM⟩
theorem x8q (g n cap sz a b:Nat) (ys0:List Nat) (w:World) (h:SX 32 w w g n ys0 sz) (hab:a < b) (hb:b<=n) (hn:n<=1000000) (hc:n<=cap) (hcm:cap<=9223372036854775807) :
  Calls Tryz.prog 255 #[.slice (some ⟨g,0,none⟩) n cap,.int .i64 a,.int .i64 b] w (RetX 32 w g n sz a b ys0 (fun _=>True)):=by
 have H:=hid h;clear h;obtain ⟨b',rfl⟩:∃ b',b=b'+1:=⟨b - 1,oM⟩
 have u1:IntKind.i64.wrap (b':Int)=(b':Int):=by rw [IntKind.wrap_i64];omega
 go_enter Tryz.func255,Tryz.ntmps255
 go_wp2;go_loopw [6,7] (fun i j wr=>∃ (p q:Nat) (ys:List Nat),a<=p/\p<=b'+1/\q<=b'/\i=.int .i64 p/\j=.int .i64 q/\Hid (PI a (b'+1) ys0 ys)/\Hid (SX 32 w wr g n ys sz)) (fun _ j _=>(RowKit.intOf j).toNat)
 case atStart=>exact ⟨a,b',ys0,oM,oM,oM,rfl,by go_num,hid (PI.refl _ _ _),H⟩
 case round =>
  clear H;obtain ⟨p,q,ys,Gb,hp,hq,rfl,rfl,HP,H⟩:=hrel;by_cases hlt:p < q
  ·have e1:(p:Int) < (n:Int):=oM
   have e2:(q:Int) < (n:Int):=oM;obtain ⟨x1,c1,z1,d1⟩:=H.out.at_ (i:=p) oM;obtain ⟨x2,c2,z2,d2⟩:=H.out.at_ (i:=q) oM;obtain ⟨x3,c3⟩:=H.out.mid (i:=p) (j:=q) oM (.int .u64 x2);have H1:=hid (H.out.swap oM oM c1 c2 d1.out d2.out).drew;clear d1 d2;have Ga:=hid (HP.out.step (i:=p) (j:=q) oM oM (by have:=H.out.len;omega));have e3:decide ((p:Int) < (q:Int))=true:=dT;clear H HP;go_wp2;go_region;go_wp2;go_roundw
   case rel=>exact ⟨p+1,q - 1,_,oM,oM,oM,by go_num,by go_num,Ga,H1⟩
   case measure=>simp [RowKit.intOf];omega
  ·go_wp2
   go_end0;exact ⟨rfl,ys,H.out,HP.out,trivial⟩
def w7c (w:World) (g n sz a b:Nat) (ys0:List Nat) (e:Ending) (w':World):Prop:=∃ (m:Nat) (c:Bool),e=.returned (.tuple #[.int .i64 m,.bool c])/\a<=m/\m < b/\SY 32 w w' g n sz a b ys0 (z4a a b m)
def w6v (w:World) (g n sz a b p:Nat) (ys0:List Nat) (e:Ending) (w':World):Prop:=∃ m:Nat,e=.returned (.int .i64 m)/\a+1<=m/\m<=b/\SY 32 w w' g n sz a b ys0 (fun ys=>x5l a b m ys/\gv ys a=gv ys0 p)
theorem x4n (g n cap sz a b p:Nat) (ys0:List Nat) (w:World) (h:SX 32 w w g n ys0 sz) (hab:a+1 < b) (hb:b<=n) (hp1:a<=p) (hp2:p < b) (hn:n<=1000000) (hc:n<=cap) (hcm:cap<=9223372036854775807) :
  Calls Tryz.prog 259 #[.slice (some ⟨g,0,none⟩) n cap,.int .i64 a,.int .i64 b,.int .i64 p] w (w7c w g n sz a b ys0):=by
 have H:=hid h;clear h;obtain ⟨b',rfl⟩:∃ b',b=b'+1:=⟨b - 1,oM⟩
 have u1:IntKind.i64.wrap (b':Int)=(b':Int):=by rw [IntKind.wrap_i64];omega
 have e1:(a:Int) < (n:Int):=oM;have e2:(p:Int) < (n:Int):=oM;go_enter Tryz.func259,Tryz.ntmps259
 obtain ⟨x1,c1,z1,d1⟩:=H.out.at_ (i:=a) oM;obtain ⟨x2,c2,z2,d2⟩:=H.out.at_ (i:=p) oM;obtain ⟨x3,c3⟩:=H.out.mid (i:=a) (j:=p) oM (.int .u64 x2);have H1:=hid (H.out.swap oM oM c1 c2 d1.out d2.out).drew;clear d1 d2;have HP:=hid (PI.sw (a:=a) (b:=b'+1) (ys:=ys0) (i:=a) (j:=p) oM oM (by have:=H.out.len;omega));generalize sw ys0 a p=ys at *;clear H;go_wp2;go_region;clear c1 c2 c3 z1 z2;go_upto_block 0 with fail
 go_cut [10] from 30 to 45 (fun v wx=>∃ k:Nat,v=.int .i64 k/\a+1<=k/\k<=b'+1/\Hid (LtL a k ys/\(k<=b'->gv ys a<=gv ys k))/\Hid (SX 32 w wx g n ys sz))
 case first =>
  go_wp2_with fail
  go_loopw [10] (fun i wr=>∃ k:Nat,a+1<=k/\k<=b'+1/\i=.int .i64 k/\Hid (LtL a k ys)/\Hid (SX 32 w wr g n ys sz)) (fun i _=>b'+1 - (RowKit.intOf i).toNat)
  case atStart=>exact ⟨a+1,oM,oM,by go_num,hid (fun i h1 h2=>absurd h2 oM),H1⟩
  case round =>
   clear H1;obtain ⟨k,Gf,Gd,rfl,HS,H⟩:=hrel;by_cases hle:k<=b'
   ·have e3:(k:Int) < (n:Int):=oM
    have e4:decide ((k:Int)<=(b':Int))=true:=dT;go_wp2_with fail
    obtain ⟨x1,c1,z1,d1⟩:=H.out.at_ (i:=k) oM;obtain ⟨x2,c2,z2,d2⟩:=H.out.at_ (i:=a) oM;obtain ⟨bb,Gb,Gc⟩:=z5j x1 x2;rw [d1.out,d2.out] at Gb;have Ga:=hid Gb;clear Gb;clear d1 d2;go_quiet ((go_at_call 257;exact Calls.quiet_of_same (Gc.out _)))
    have H1:=hid (H.out.drewN nq);clear c1 c2 z1 z2 H Gc;cases bb
    ·have HB:=hid (Nat.not_lt.mp (of_decide_eq_false Ga.out.symm))
     clear Ga;go_wp2_with fail
     go_meet;exact ⟨k,rfl,Gf,Gd,hid ⟨HS.out,fun _=>HB.out⟩,H1⟩
    ·have HB:=hid (of_decide_eq_true Ga.out.symm)
     clear Ga;go_wp2_with fail
     go_roundw
     case rel=>exact ⟨k+1,oM,oM,by go_num,hid (HS.out.snoc HB.out),H1⟩
     case measure=>simp [RowKit.intOf];omega
   ·have e4:decide ((k:Int)<=(b':Int))=false:=dF
    go_wp2_with fail
    go_quiet (fail)
    have H1:=hid (H.out.drewN nq);go_wp2_with fail
    go_meet;exact ⟨k,rfl,Gf,Gd,hid ⟨HS.out,fun hk=>absurd hk hle⟩,H1⟩
 case rest =>
  clear H1;obtain ⟨k,rfl,Gf,Gd,HS,H⟩:=hcut;go_upto_block 2 with fail
  go_cut [11] from 46 to 62 (fun v wx=>∃ q:Nat,v=.int .i64 q/\a<=q/\q<=b'/\Hid (GeR a q (b'+1) ys/\(k<=q->gv ys q < gv ys a))/\Hid (SX 32 w wx g n ys sz))
  case first =>
   go_wp2_with fail
   go_loopw [11] (fun j wr=>∃ q:Nat,a<=q/\q<=b'/\j=.int .i64 q/\Hid (GeR a q (b'+1) ys)/\Hid (SX 32 w wr g n ys sz)) (fun j _=>(RowKit.intOf j).toNat)
   case atStart=>exact ⟨b',oM,oM,rfl,hid (fun i h1 h2=>absurd h2 oM),H⟩
   case round =>
    clear H;obtain ⟨q,Ge,Gg,rfl,HR,H⟩:=hrel;by_cases hle:k<=q
    ·have e3:(q:Int) < (n:Int):=oM
     have e4:decide ((k:Int)<=(q:Int))=true:=dT;go_wp2_with fail
     obtain ⟨x1,c1,z1,d1⟩:=H.out.at_ (i:=q) oM;obtain ⟨x2,c2,z2,d2⟩:=H.out.at_ (i:=a) oM;obtain ⟨bb,Gb,Gc⟩:=z5j x1 x2;rw [d1.out,d2.out] at Gb;have Ga:=hid Gb;clear Gb;clear d1 d2;go_quiet ((go_at_call 257;exact Calls.quiet_of_same (Gc.out _)))
     have H1:=hid (H.out.drewN nq);clear c1 c2 z1 z2 H Gc;cases bb
     ·have HB:=hid (Nat.not_lt.mp (of_decide_eq_false Ga.out.symm))
      clear Ga;go_wp2_with fail
      go_roundw
      case rel=>exact ⟨q - 1,oM,oM,by go_num,hid (HR.out.cons HB.out),H1⟩
      case measure=>simp [RowKit.intOf];omega
     ·have HB:=hid (of_decide_eq_true Ga.out.symm)
      clear Ga;go_wp2_with fail
      go_meet;exact ⟨q,rfl,Ge,Gg,hid ⟨HR.out,fun _=>HB.out⟩,H1⟩
    ·have e4:decide ((k:Int)<=(q:Int))=false:=dF
     go_wp2_with fail
     go_quiet (fail)
     have H1:=hid (H.out.drewN nq);go_wp2_with fail
     go_meet;exact ⟨q,rfl,Ge,Gg,hid ⟨HR.out,fun hk=>absurd hk hle⟩,H1⟩
  case rest =>
   clear H;obtain ⟨q,rfl,Ge,Gg,HR,H⟩:=hcut;by_cases hgt:q < k
   ·have e3:(q:Int) < (n:Int):=oM
    have e4:decide ((q:Int) < (k:Int))=true:=dT;obtain ⟨x1,c1,z1,d1⟩:=H.out.at_ (i:=q) oM;obtain ⟨x2,c2,z2,d2⟩:=H.out.at_ (i:=a) oM;obtain ⟨x3,c3⟩:=H.out.mid (i:=q) (j:=a) oM (.int .u64 x2);have H1:=hid (H.out.swap oM oM c1 c2 d1.out d2.out).drew;clear d1 d2;have HY:=hid (show SY 32 w _ g n sz a (b'+1) ys0 (z4a a (b'+1) q) from ⟨_,H1.out,HP.out.step oM oM (by have:=H.out.len;omega),x1u HS.out.1 HR.out.1 Ge hgt Gd (by have:=H.out.len;omega)⟩);clear H H1 HP HS HR;go_wp2_with fail
    go_region;clear c1 c2 c3 z1 z2;go_wp2_with fail
    go_ret2;exact ⟨q,true,rfl,oM,oM,HY.out⟩
   ·have e3:(q:Int) < (n:Int):=oM
    have e4:decide ((q:Int) < (k:Int))=false:=dF;have e5:(k:Int) < (n:Int):=oM;obtain ⟨x1,c1,z1,d1⟩:=H.out.at_ (i:=k) oM;obtain ⟨x2,c2,z2,d2⟩:=H.out.at_ (i:=q) oM;obtain ⟨x3,c3⟩:=H.out.mid (i:=k) (j:=q) oM (.int .u64 x2);have H1:=hid (H.out.swap oM oM c1 c2 d1.out d2.out).drew;clear d1 d2;have Gh:=hid (HP.out.step (i:=k) (j:=q) oM oM (by have:=H.out.len;omega));have HZ:=hid (y7p HS.out.1 HR.out.1 oM oM (HS.out.2 oM) (HR.out.2 oM) oM (by have:=H.out.len;omega));clear H HP HS HR;generalize sw ys k q=ys at *;go_wp2_with fail
    go_region;clear c1 c2 c3 z1 z2;go_wp2_with fail
    go_loopw [10,11] (fun i j wr=>∃ (k q:Nat) (ys:List Nat),a+1<=k/\k<=b'+1/\a<=q/\q<=b'/\i=.int .i64 k/\j=.int .i64 q/\Hid (PI a (b'+1) ys0 ys)/\Hid (LtL a k ys/\GeR a q (b'+1) ys)/\Hid (SX 32 w wr g n ys sz)) (fun i _ _=>b'+1 - (RowKit.intOf i).toNat)
    case atStart=>exact ⟨k+1,q - 1,_,oM,oM,oM,oM,by go_num,by go_num,Gh,HZ,H1⟩
    case round =>
     clear H1 e3 e4 e5 hgt Gh HZ;obtain ⟨k0,q0,ys,Gj,Gk,Gl,Gm,rfl,rfl,HP,HZ,H⟩:=hrel;go_upto_block 6 with fail
     go_cut [10] from 99 to 152 (fun v wx=>∃ k:Nat,v=.int .i64 k/\k0<=k/\k<=b'+1/\Hid (LtL a k ys/\(k<=q0->gv ys a<=gv ys k))/\Hid (SX 32 w wx g n ys sz))
     case first =>
      go_wp2_with fail
      go_loopw [10] (fun i wr=>∃ k:Nat,k0<=k/\k<=b'+1/\i=.int .i64 k/\Hid (LtL a k ys)/\Hid (SX 32 w wr g n ys sz)) (fun i _=>b'+1 - (RowKit.intOf i).toNat)
      case atStart=>exact ⟨k0,oM,oM,rfl,hid HZ.out.1,H⟩
      case round =>
       clear H;obtain ⟨k,Gf,Gd,rfl,HS,H⟩:=hrel;by_cases hle:k<=q0
       ·have e3:(k:Int) < (n:Int):=oM
        have e4:decide ((k:Int)<=(q0:Int))=true:=dT;go_wp2_with fail
        obtain ⟨x1,c1,z1,d1⟩:=H.out.at_ (i:=k) oM;obtain ⟨x2,c2,z2,d2⟩:=H.out.at_ (i:=a) oM;obtain ⟨bb,Gb,Gc⟩:=z5j x1 x2;rw [d1.out,d2.out] at Gb;have Ga:=hid Gb;clear Gb;clear d1 d2;go_quiet ((go_at_call 257;exact Calls.quiet_of_same (Gc.out _)))
        have H1:=hid (H.out.drewN nq);clear c1 c2 z1 z2 H Gc;cases bb
        ·have HB:=hid (Nat.not_lt.mp (of_decide_eq_false Ga.out.symm))
         clear Ga;go_wp2_with fail
         go_meet;exact ⟨k,rfl,Gf,Gd,hid ⟨HS.out,fun _=>HB.out⟩,H1⟩
        ·have HB:=hid (of_decide_eq_true Ga.out.symm)
         clear Ga;go_wp2_with fail
         go_roundw
         case rel=>exact ⟨k+1,oM,oM,by go_num,hid (HS.out.snoc HB.out),H1⟩
         case measure=>simp [RowKit.intOf];omega
       ·have e4:decide ((k:Int)<=(q0:Int))=false:=dF
        go_wp2_with fail
        go_quiet (fail)
        have H1:=hid (H.out.drewN nq);go_wp2_with fail
        go_meet;exact ⟨k,rfl,Gf,Gd,hid ⟨HS.out,fun hk=>absurd hk hle⟩,H1⟩
     case rest =>
      clear H;obtain ⟨k,rfl,Gf,Gd,HS,H⟩:=hcut;go_upto_block 8 with fail
      go_cut [11] from 99 to 152 (fun v wx=>∃ q:Nat,v=.int .i64 q/\a<=q/\q<=b'/\Hid (GeR a q (b'+1) ys/\(k<=q->gv ys q < gv ys a)/\q<=q0)/\Hid (SX 32 w wx g n ys sz))
      case first =>
       go_wp2_with fail
       go_loopw [11] (fun j wr=>∃ q:Nat,a<=q/\q<=b'/\j=.int .i64 q/\Hid (GeR a q (b'+1) ys/\q<=q0)/\Hid (SX 32 w wr g n ys sz)) (fun j _=>(RowKit.intOf j).toNat)
       case atStart=>exact ⟨q0,oM,oM,rfl,hid ⟨HZ.out.2,nL _⟩,H⟩
       case round =>
        clear H;obtain ⟨q,Ge,Gg,rfl,HR,H⟩:=hrel;by_cases hle:k<=q
        ·have e3:(q:Int) < (n:Int):=oM
         have e4:decide ((k:Int)<=(q:Int))=true:=dT;go_wp2_with fail
         obtain ⟨x1,c1,z1,d1⟩:=H.out.at_ (i:=q) oM;obtain ⟨x2,c2,z2,d2⟩:=H.out.at_ (i:=a) oM;obtain ⟨bb,Gb,Gc⟩:=z5j x1 x2;rw [d1.out,d2.out] at Gb;have Ga:=hid Gb;clear Gb;clear d1 d2;go_quiet ((go_at_call 257;exact Calls.quiet_of_same (Gc.out _)))
         have H1:=hid (H.out.drewN nq);clear c1 c2 z1 z2 H Gc;cases bb
         ·have HB:=hid (Nat.not_lt.mp (of_decide_eq_false Ga.out.symm))
          clear Ga;go_wp2_with fail
          go_roundw
          case rel=>exact ⟨q - 1,oM,oM,by go_num,hid ⟨HR.out.1.cons HB.out,by have:=HR.out.2;omega⟩,H1⟩
          case measure=>simp [RowKit.intOf];omega
         ·have HB:=hid (of_decide_eq_true Ga.out.symm)
          clear Ga;go_wp2_with fail
          go_meet;exact ⟨q,rfl,Ge,Gg,hid ⟨HR.out.1,fun _=>HB.out,HR.out.2⟩,H1⟩
        ·have e4:decide ((k:Int)<=(q:Int))=false:=dF
         go_wp2_with fail
         go_quiet (fail)
         have H1:=hid (H.out.drewN nq);go_wp2_with fail
         go_meet;exact ⟨q,rfl,Ge,Gg,hid ⟨HR.out.1,fun hk=>absurd hk hle,HR.out.2⟩,H1⟩
      case rest =>
       clear H;obtain ⟨q,rfl,Ge,Gg,HR,H⟩:=hcut;by_cases hgt:q < k
       ·have e3:(q:Int) < (n:Int):=oM
        have e4:decide ((q:Int) < (k:Int))=true:=dT;obtain ⟨x1,c1,z1,d1⟩:=H.out.at_ (i:=q) oM;obtain ⟨x2,c2,z2,d2⟩:=H.out.at_ (i:=a) oM;obtain ⟨x3,c3⟩:=H.out.mid (i:=q) (j:=a) oM (.int .u64 x2);have H1:=hid (H.out.swap oM oM c1 c2 d1.out d2.out).drew;clear d1 d2;have HY:=hid (show SY 32 w _ g n sz a (b'+1) ys0 (z4a a (b'+1) q) from ⟨_,H1.out,HP.out.step oM oM (by have:=H.out.len;omega),x1u HS.out.1 HR.out.1 Ge hgt Gd (by have:=H.out.len;omega)⟩);clear H H1 HP HS HR HZ;go_wp2_with fail
        go_region;clear c1 c2 c3 z1 z2;go_wp2_with fail
        go_ret2;exact ⟨q,false,rfl,oM,oM,HY.out⟩
       ·have e3:(q:Int) < (n:Int):=oM
        have e4:decide ((q:Int) < (k:Int))=false:=dF;have e5:(k:Int) < (n:Int):=oM;obtain ⟨x1,c1,z1,d1⟩:=H.out.at_ (i:=k) oM;obtain ⟨x2,c2,z2,d2⟩:=H.out.at_ (i:=q) oM;obtain ⟨x3,c3⟩:=H.out.mid (i:=k) (j:=q) oM (.int .u64 x2);have H1:=hid (H.out.swap oM oM c1 c2 d1.out d2.out).drew;clear d1 d2;have Gh:=hid (HP.out.step (i:=k) (j:=q) oM oM (by have:=H.out.len;omega));have Gi:=hid (y7p HS.out.1 HR.out.1 oM oM (HS.out.2 (by have:=HR.out.2.2;omega)) (HR.out.2.1 oM) oM (by have:=H.out.len;omega));clear H HP HS HR HZ;generalize sw ys k q=ys at *;go_wp2_with fail
        go_region;clear c1 c2 c3 z1 z2;go_wp2_with fail
        go_roundw
        case rel=>exact ⟨k+1,q - 1,_,oM,oM,oM,oM,by go_num,by go_num,Gh,Gi,H1⟩
        case measure=>simp [RowKit.intOf];omega
theorem y7o (g n cap sz a b p:Nat) (ys0:List Nat) (w:World) (h:SX 32 w w g n ys0 sz) (hab:a+1 < b) (hb:b<=n) (hp1:a<=p) (hp2:p < b) (hn:n<=1000000) (hc:n<=cap) (hcm:cap<=9223372036854775807) :
  Calls Tryz.prog 258 #[.slice (some ⟨g,0,none⟩) n cap,.int .i64 a,.int .i64 b,.int .i64 p] w (w6v w g n sz a b p ys0):=by
 have H:=hid h;clear h;obtain ⟨b',rfl⟩:∃ b',b=b'+1:=⟨b - 1,oM⟩
 have u1:IntKind.i64.wrap (b':Int)=(b':Int):=by rw [IntKind.wrap_i64];omega
 have e1:(a:Int) < (n:Int):=oM;have e2:(p:Int) < (n:Int):=oM;go_enter Tryz.func258,Tryz.ntmps258
 obtain ⟨x1,c1,z1,d1⟩:=H.out.at_ (i:=a) oM;obtain ⟨x2,c2,z2,d2⟩:=H.out.at_ (i:=p) oM;obtain ⟨x3,c3⟩:=H.out.mid (i:=a) (j:=p) oM (.int .u64 x2);have H1:=hid (H.out.swap oM oM c1 c2 d1.out d2.out).drew;clear d1 d2;have HP:=hid (PI.sw (a:=a) (b:=b'+1) (ys:=ys0) (i:=a) (j:=p) oM oM (by have:=H.out.len;omega));have HA:=hid (z3k (ys:=ys0) (i:=a) (j:=p) (by have:=H.out.len;omega) (by have:=H.out.len;omega));generalize sw ys0 a p=ys at *;clear H;go_wp2;go_region;clear c1 c2 c3 z1 z2;go_wp2_with fail
 go_loopw [9,10] (fun i j wr=>∃ (k q:Nat) (ys:List Nat),a+1<=k/\k<=b'+1/\a<=q/\q<=b'/\i=.int .i64 k/\j=.int .i64 q/\Hid (PI a (b'+1) ys0 ys)/\Hid (gv ys a=gv ys0 p)/\Hid (LeL a k ys/\GtR a q (b'+1) ys)/\Hid (SX 32 w wr g n ys sz)) (fun i _ _=>b'+1 - (RowKit.intOf i).toNat)
 case atStart=>exact ⟨a+1,b',_,oM,oM,oM,oM,by go_num,by go_num,HP,HA,hid ⟨LeL.one _ _,fun i h1 h2=>absurd h2 oM⟩,H1⟩
 case round =>
  clear H1 HP HA;obtain ⟨k0,q0,ys,Gl,Gm,Gn,Gp,rfl,rfl,HP,HA,HZ,H⟩:=hrel;go_upto_block 2 with fail
  go_cut [9] from 29 to 82 (fun v wx=>∃ k:Nat,v=.int .i64 k/\k0<=k/\k<=b'+1/\Hid (LeL a k ys/\(k<=q0->gv ys a < gv ys k))/\Hid (SX 32 w wx g n ys sz))
  case first =>
   go_wp2_with fail
   go_loopw [9] (fun i wr=>∃ k:Nat,k0<=k/\k<=b'+1/\i=.int .i64 k/\Hid (LeL a k ys)/\Hid (SX 32 w wr g n ys sz)) (fun i _=>b'+1 - (RowKit.intOf i).toNat)
   case atStart=>exact ⟨k0,oM,oM,rfl,hid HZ.out.1,H⟩
   case round =>
    clear H;obtain ⟨k,Ge,Gf,rfl,HS,H⟩:=hrel;by_cases hle:k<=q0
    ·have e3:(k:Int) < (n:Int):=oM
     have e4:decide ((k:Int)<=(q0:Int))=true:=dT;go_wp2_with fail
     obtain ⟨x1,c1,z1,d1⟩:=H.out.at_ (i:=a) oM;obtain ⟨x2,c2,z2,d2⟩:=H.out.at_ (i:=k) oM;obtain ⟨bb,Gb,Gc⟩:=z5j x1 x2;rw [d1.out,d2.out] at Gb;have Ga:=hid Gb;clear Gb;clear d1 d2;go_quiet ((go_at_call 257;exact Calls.quiet_of_same (Gc.out _)))
     have H1:=hid (H.out.drewN nq);clear c1 c2 z1 z2 H Gc;cases bb
     ·have HB:=hid (Nat.not_lt.mp (of_decide_eq_false Ga.out.symm))
      clear Ga;go_wp2_with fail
      go_roundw
      case rel=>exact ⟨k+1,oM,oM,by go_num,hid (HS.out.snoc HB.out),H1⟩
      case measure=>simp [RowKit.intOf];omega
     ·have HB:=hid (of_decide_eq_true Ga.out.symm)
      clear Ga;go_wp2_with fail
      go_meet;exact ⟨k,rfl,Ge,Gf,hid ⟨HS.out,fun _=>HB.out⟩,H1⟩
    ·have e4:decide ((k:Int)<=(q0:Int))=false:=dF
     go_wp2_with fail
     go_quiet (fail)
     have H1:=hid (H.out.drewN nq);go_wp2_with fail
     go_meet;exact ⟨k,rfl,Ge,Gf,hid ⟨HS.out,fun hk=>absurd hk hle⟩,H1⟩
  case rest =>
   clear H;obtain ⟨k,rfl,Ge,Gf,HS,H⟩:=hcut;go_upto_block 4 with fail
   go_cut [10] from 29 to 82 (fun v wx=>∃ q:Nat,v=.int .i64 q/\a<=q/\q<=b'/\Hid (GtR a q (b'+1) ys/\(k<=q->gv ys q<=gv ys a)/\q<=q0)/\Hid (SX 32 w wx g n ys sz))
   case first =>
    go_wp2_with fail
    go_loopw [10] (fun j wr=>∃ q:Nat,a<=q/\q<=b'/\j=.int .i64 q/\Hid (GtR a q (b'+1) ys/\q<=q0)/\Hid (SX 32 w wr g n ys sz)) (fun j _=>(RowKit.intOf j).toNat)
    case atStart=>exact ⟨q0,oM,oM,rfl,hid ⟨HZ.out.2,nL _⟩,H⟩
    case round =>
     clear H;obtain ⟨q,Gg,Gh,rfl,HR,H⟩:=hrel;by_cases hle:k<=q
     ·have e3:(q:Int) < (n:Int):=oM
      have e4:decide ((k:Int)<=(q:Int))=true:=dT;go_wp2_with fail
      obtain ⟨x1,c1,z1,d1⟩:=H.out.at_ (i:=a) oM;obtain ⟨x2,c2,z2,d2⟩:=H.out.at_ (i:=q) oM;obtain ⟨bb,Gb,Gc⟩:=z5j x1 x2;rw [d1.out,d2.out] at Gb;have Ga:=hid Gb;clear Gb;clear d1 d2;go_quiet ((go_at_call 257;exact Calls.quiet_of_same (Gc.out _)))
      have H1:=hid (H.out.drewN nq);clear c1 c2 z1 z2 H Gc;cases bb
      ·have HB:=hid (Nat.not_lt.mp (of_decide_eq_false Ga.out.symm))
       clear Ga;go_wp2_with fail
       go_meet;exact ⟨q,rfl,Gg,Gh,hid ⟨HR.out.1,fun _=>HB.out,HR.out.2⟩,H1⟩
      ·have HB:=hid (of_decide_eq_true Ga.out.symm)
       clear Ga;go_wp2_with fail
       go_roundw
       case rel=>exact ⟨q - 1,oM,oM,by go_num,hid ⟨HR.out.1.cons HB.out,by have:=HR.out.2;omega⟩,H1⟩
       case measure=>simp [RowKit.intOf];omega
     ·have e4:decide ((k:Int)<=(q:Int))=false:=dF
      go_wp2_with fail
      go_quiet (fail)
      have H1:=hid (H.out.drewN nq);go_wp2_with fail
      go_meet;exact ⟨q,rfl,Gg,Gh,hid ⟨HR.out.1,fun hk=>absurd hk hle,HR.out.2⟩,H1⟩
   case rest =>
    clear H;obtain ⟨q,rfl,Gg,Gh,HR,H⟩:=hcut;by_cases hgt:q < k
    ·have e4:decide ((q:Int) < (k:Int))=true:=dT
     go_wp2_with fail
     go_ret;exact ⟨k,rfl,oM,oM,ys,H.out,HP.out,w8n HS.out.1 HR.out.1 hgt,HA.out⟩
    ·have e3:(q:Int) < (n:Int):=oM
     have e4:decide ((q:Int) < (k:Int))=false:=dF;have e5:(k:Int) < (n:Int):=oM;obtain ⟨x1,c1,z1,d1⟩:=H.out.at_ (i:=k) oM;obtain ⟨x2,c2,z2,d2⟩:=H.out.at_ (i:=q) oM;obtain ⟨x3,c3⟩:=H.out.mid (i:=k) (j:=q) oM (.int .u64 x2);have H1:=hid (H.out.swap oM oM c1 c2 d1.out d2.out).drew;clear d1 d2;have Gj:=hid (HP.out.step (i:=k) (j:=q) oM oM (by have:=H.out.len;omega));have Gd:=hid (w6b HS.out.1 HR.out.1 oM oM (HS.out.2 (by have:=HR.out.2.2;omega)) (HR.out.2.1 oM) oM (by have:=H.out.len;omega));have Gi:=hid (Gd.out.2.2.trans HA.out);have Gk:=hid (And.intro Gd.out.1 Gd.out.2.1);clear H HP HS HR HZ Gd HA;generalize sw ys k q=ys at *;go_wp2_with fail
     go_region;clear c1 c2 c3 z1 z2;go_wp2_with fail
     go_roundw
     case rel=>exact ⟨k+1,q - 1,_,oM,oM,oM,oM,by go_num,by go_num,Gj,Gi,Gk,H1⟩
     case measure=>simp [RowKit.intOf];omega
theorem y3f (g n cap sz lo hi first:Nat) (ys0:List Nat) (w:World) (h:SX 32 w w g n ys0 sz) (hp:Hp first (lo+1) hi ys0) (hf:first+hi<=n) (hlo:lo<=1000000) (hn:n<=1000000) :
  Calls Tryz.prog 322 #[.slice (some ⟨g,0,none⟩) n cap,.int .i64 lo,.int .i64 hi,.int .i64 first] w (RetX 32 w g n sz first (first+hi) ys0 (Hp first lo hi)):=by
 have H:=hid h;have HX:=hid hp.start;clear h hp;go_enter Tryz.func322,Tryz.ntmps322
 go_wp2;go_loopw [8] (fun i wr=>∃ (r:Nat) (ys:List Nat),lo<=r/\r<=lo+hi/\i=.int .i64 r/\Hid (PI first (first+hi) ys0 ys)/\Hid (HpX first lo hi r ys)/\Hid (SX 32 w wr g n ys sz)) (fun i _=>lo+hi - (RowKit.intOf i).toNat)
 case atStart=>exact ⟨lo,ys0,nL _,oM,rfl,hid (PI.refl _ _ _),HX,H⟩
 case round =>
  clear H HX;obtain ⟨r,ys,Gh,hr,rfl,HP,HX,H⟩:=hrel;go_upto_region 1 with fail
  go_cut [9] from 11 to 75 (fun v wx=>∃ c:Nat,v=.int .i64 c/\2 * r+1<=c/\c<=2 * r+1/\Hid (SX 32 w wx g n ys sz))
  case first =>
   go_wp2_with fail
   go_meet;exact ⟨2 * r+1,by go_num,nL _,nL _,H⟩
  case rest =>
   clear H;obtain ⟨c,rfl,Gi,Gj,H⟩:=hcut;by_cases hge:hi<=c
   ·have e1:decide ((hi:Int)<=(c:Int))=true:=dT
    have HD:=hid (HX.out.leaf oM);go_wp2_with fail
    go_end0;exact ⟨rfl,ys,H.out,HP.out,HD.out⟩
   ·have e1:decide ((hi:Int)<=(c:Int))=false:=dF
    go_upto_region 3 with fail
    go_cut [36] from 11 to 75 (fun v wx=>∃ bb,v=.bool bb/\(bb=true->c+1 < hi)/\Hid (c+1 < hi->bb=decide (gv ys (first+c) < gv ys (first+c+1)))/\Hid (SX 32 w wx g n ys sz))
    case first =>
     by_cases hl:c+1 < hi
     ·have e2:decide ((c:Int)+1 < (hi:Int))=true:=dT
      have f1:(first:Int)+(c:Int) < (n:Int):=oM;have f2:(first:Int)+(c:Int)+1 < (n:Int):=oM;have f3:((first:Int)+(c:Int)).toNat=first+c:=oM;have f4:((first:Int)+(c:Int)+1).toNat=first+c+1:=oM;have f5:(0:Int)<=(first:Int)+(c:Int):=oM;have f6:(0:Int)<=(first:Int)+(c:Int)+1:=oM;obtain ⟨x1,c1,z1,d1⟩:=H.out.at_ (i:=(first+c)) oM;obtain ⟨x2,c2,z2,d2⟩:=H.out.at_ (i:=(first+c+1)) oM;obtain ⟨bb,Gb,Gc⟩:=z5j x1 x2;rw [d1.out,d2.out] at Gb;have Ga:=hid Gb;clear Gb;clear d1 d2;go_quiet ((go_at_call 257;exact Calls.quiet_of_same (Gc.out _)))
      have H1:=hid (H.out.drewN nq);clear c1 c2 z1 z2 H Gc;go_wp2_with fail
      go_meet;exact ⟨bb,rfl,fun _=>hl,hid fun _=>Ga.out,H1⟩
     ·have e2:decide ((c:Int)+1 < (hi:Int))=false:=dF
      go_quiet (fail)
      have H1:=hid (H.out.drewN nq);go_wp2_with fail
      go_meet;exact ⟨false,rfl,fun h=>(by cases h),hid fun h=>absurd h hl,H1⟩
    case rest =>
     clear H;obtain ⟨bb,rfl,Gd,Ga,H⟩:=hcut;go_upto_if 36 with fail
     go_cut [9] from 11 to 75 (fun v wx=>∃ c2:Nat,v=.int .i64 c2/\c<=c2/\c2 < hi/\Hid ((c2=2 * r+1\/c2=2 * r+2)/\∀ k,(k=2 * r+1\/k=2 * r+2)->k < hi->gv ys (first+k)<=gv ys (first+c2))/\Hid (SX 32 w wx g n ys sz))
     case first =>
      cases bb
      ·have HC:=hid (show (c=2 * r+1\/c=2 * r+2)/\∀ k,(k=2 * r+1\/k=2 * r+2)->k < hi->gv ys (first+k)<=gv ys (first+c) from ⟨.inl oM,fun k k1 k2=>by
        by_cases e:k=c
        ·subst e;exact nL _
        ·have e2:k=c+1:=oM
         subst e2;exact Nat.not_lt.mp (of_decide_eq_false (Ga.out oM).symm)⟩)
       clear Ga;go_wp2_with fail
       go_meet;exact ⟨c,rfl,nL _,oM,HC,H⟩
      ·have:=Gd rfl
       have HC:=hid (show (c+1=2 * r+1\/c+1=2 * r+2)/\∀ k,(k=2 * r+1\/k=2 * r+2)->k < hi->gv ys (first+k)<=gv ys (first+(c+1)) from ⟨.inr oM,fun k k1 k2=>by
        by_cases e:k=c+1
        ·subst e;exact nL _
        ·have e2:k=c:=oM
         subst e2;exact Nat.le_of_lt (of_decide_eq_true (Ga.out oM).symm)⟩)
       clear Ga;go_wp2_with fail
       go_meet;exact ⟨c+1,by go_num,oM,oM,HC,H⟩
     case rest =>
      clear H Gd Ga;obtain ⟨k2,rfl,Gk,Gg,HC,H⟩:=hcut;have f1:(first:Int)+(r:Int) < (n:Int):=oM;have f2:(first:Int)+(k2:Int) < (n:Int):=oM;have f3:((first:Int)+(r:Int)).toNat=first+r:=oM;have f4:((first:Int)+(k2:Int)).toNat=first+k2:=oM;have f5:(0:Int)<=(first:Int)+(r:Int):=oM;have f6:(0:Int)<=(first:Int)+(k2:Int):=oM;have ne:first+r≠first+k2:=oM;go_wp2_with fail
      obtain ⟨x1,c1,z1,d1⟩:=H.out.at_ (i:=(first+r)) oM;obtain ⟨x2,c2,z2,d2⟩:=H.out.at_ (i:=(first+k2)) oM;obtain ⟨bb,Gb,Gc⟩:=z5j x1 x2;rw [d1.out,d2.out] at Gb;have Ga:=hid Gb;clear Gb;clear d1 d2;go_quiet ((go_at_call 257;exact Calls.quiet_of_same (Gc.out _)))
      have H1:=hid (H.out.drewN nq);clear c1 c2 z1 z2 H Gc;cases bb
      ·have HB:=hid (Nat.not_lt.mp (of_decide_eq_false Ga.out.symm))
       clear Ga;have HD:=hid (HX.out.done HC.out.2 HB.out);go_wp2_with fail
       go_end0;exact ⟨rfl,ys,H1.out,HP.out,HD.out⟩
      ·have HB:=hid (of_decide_eq_true Ga.out.symm)
       clear Ga;have H:=H1;clear H1;generalize wc.drewN nq=wr at *;obtain ⟨x1,c1,z1,d1⟩:=H.out.at_ (i:=(first+r)) oM;obtain ⟨x2,c2,z2,d2⟩:=H.out.at_ (i:=(first+k2)) oM;obtain ⟨x3,c3⟩:=H.out.mid (i:=(first+r)) (j:=(first+k2)) oM (.int .u64 x2);have H1:=hid (H.out.swap oM oM c1 c2 d1.out d2.out).drew;clear d1 d2;have Ge:=hid (HP.out.step (i:=first+r) (j:=first+k2) oM oM (by have:=H.out.len;omega));have Gf:=hid (HX.out.step Gh HC.out.1 Gg HC.out.2 HB.out (by have:=H.out.len;omega));clear H HP HX HC HB;generalize sw ys (first+r) (first+k2)=ys at *;go_wp2_with fail
       go_region;clear c1 c2 c3 z1 z2;go_wp2_with fail
       go_roundw
       case rel=>exact ⟨k2,_,oM,oM,rfl,Ge,Gf,H1⟩
       case measure=>simp [RowKit.intOf];omega
theorem x3v (g n cap sz a d:Nat) (ys0:List Nat) (w:World) (h:SX 32 w w g n ys0 sz) (hb:a+(d+1)<=n) (hn:n<=1000000) (hc:n<=cap) (hcm:cap<=9223372036854775807) :
  Calls Tryz.prog 252 #[.slice (some ⟨g,0,none⟩) n cap,.int .i64 a,.int .i64 ((a+(d+1):Nat):Int)] w (RetX 32 w g n sz a (a+(d+1)) ys0 (Srt a (a+(d+1)))):=by
 have H:=hid h;have Gc:Hid (∀ (q:Nat) (W:World) (zs:List Nat),q<=1000000->SX 32 W W g n zs sz->Hp a (q+1) (d+1) zs->Calls Tryz.prog 322 #[.slice (some ⟨g,0,none⟩) n cap,.int .i64 q,.int .i64 ((d:Int)+1),.int .i64 a] W (RetX 32 W g n sz a (a+(d+1)) zs (Hp a q (d+1)))):=fun q W zs hq hW hz=>by
  have:=y3f g n cap sz q (d+1) a zs W hW hz hb hq hn;simpa using this
 have Gd:Hid (∀ (q:Nat) (W:World) (zs:List Nat),q<=d->SX 32 W W g n zs sz->Hp a 1 q zs->Calls Tryz.prog 322 #[.slice (some ⟨g,0,none⟩) n cap,.int .i64 0,.int .i64 q,.int .i64 a] W (RetX 32 W g n sz a (a+q) zs (Hp a 0 q))):=fun q W zs hq hW hz=>by
  have:=y3f g n cap sz 0 q a zs W hW hz oM oM hn;simpa using this
 clear h;have u1:(a:Int)+((d:Int)+1) - (a:Int)=(d:Int)+1:=oM;have u2:IntKind.i64.wrap (d:Int)=(d:Int):=by rw [IntKind.wrap_i64];omega
 go_enter Tryz.func252,Tryz.ntmps252
 go_wp2;go_loopw [9] (fun i wr=>∃ k:Nat,k<=d+1/\y1p k i/\Hid (SY 32 w wr g n sz a (a+(d+1)) ys0 (Hp a k (d+1)))) (fun i _=>(RowKit.intOf i+1).toNat)
 case atStart=>exact ⟨d / 2+1,oM,.inr ⟨d / 2,rfl,congrArg (Value.int .i64) oM⟩,hid ⟨ys0,H.out,PI.refl _ _ _,fun i c h1 h2 h3=>absurd h3 oM⟩⟩
 case round =>
  clear H;obtain ⟨k,hk,⟨rfl,rfl⟩ | ⟨q,rfl,rfl⟩,HY⟩:=hrel
  ·have HT:Hid (SY 32 w wr g n sz a (a+(d+1)) ys0 (HpT a (d+1) (a+(d+1)))):=by
    obtain ⟨ys,h1,h2,h3⟩:=HY.out;exact hid ⟨ys,h1,h2,h3,fun p q k1 k2 k3 k4=>absurd k3 oM⟩
   clear HY;go_wp2;go_loopw [10] (fun i wr=>∃ k:Nat,k<=d+1/\y1p k i/\Hid (SY 32 w wr g n sz a (a+(d+1)) ys0 (HpT a k (a+(d+1))))) (fun i _=>(RowKit.intOf i+1).toNat)
   case atStart=>exact ⟨d+1,oM,.inr ⟨d,rfl,rfl⟩,HT⟩
   case round =>
    clear HT;obtain ⟨k,hk,⟨rfl,rfl⟩ | ⟨q,rfl,rfl⟩,HY⟩:=hrel
    ·go_wp2
     go_end0;refine ⟨rfl,?_⟩;obtain ⟨ys,h1,h2,h3⟩:=HY.out;exact ⟨ys,h1,h2,h3.srt⟩
    ·obtain ⟨ys,HP,HT,H⟩:∃ ys,Hid (PI a (a+(d+1)) ys0 ys)/\Hid (HpT a (q+1) (a+(d+1)) ys)/\Hid (SX 32 w wr g n ys sz):=by
      obtain ⟨ys,h1,h2,h3⟩:=HY.out;exact ⟨ys,hid h2,hid h3,hid h1⟩
     clear HY;have f1:(a:Int)+(q:Int) < (n:Int):=oM;have f2:(a:Int) < (n:Int):=oM;have f3:((a:Int)+(q:Int)).toNat=a+q:=oM;have f5:(0:Int)<=(a:Int)+(q:Int):=oM;obtain ⟨x1,c1,z1,d1⟩:=H.out.at_ (i:=a) oM;obtain ⟨x2,c2,z2,d2⟩:=H.out.at_ (i:=(a+q)) oM;obtain ⟨x3,c3⟩:=H.out.mid (i:=a) (j:=(a+q)) oM (.int .u64 x2);have H1:=hid (H.out.swap oM oM c1 c2 d1.out d2.out).drew;clear d1 d2;have Gb:=hid (HP.out.step (i:=a) (j:=a+q) oM oM (by have:=H.out.len;omega));have Ga:=hid (HT.out.pop oM (by have:=H.out.len;omega));clear H HP HT;generalize sw ys a (a+q)=ys at *;go_wp2_with fail
     go_region;clear c1 c2 c3 z1 z2;go_wp2_with fail
     generalize hW:World.drew _=W at *;clear hW;refine (Gd.out q W ys oM H1.out.self Ga.out.1).mono ?_;rintro e W1 ⟨rfl,zs,h1,h2,h3⟩;have H2:=hid (show SY 32 w W1 g n sz a (a+(d+1)) ys0 (HpT a q (a+(d+1))) from ⟨zs,H1.out.trans h1,Gb.out.trans (h2.widen (nL _) oM),HpT.next h3 Ga.out.2 h2⟩);clear h1 h2 h3 H1 Gb Ga;go_wp2_with fail
     go_roundw
     case rel =>
      repeat apply Exists.intro
      refine ⟨?_,rfl⟩;exact ⟨q,oM,y1p.pred q,H2⟩
     case measure=>simp [RowKit.intOf]
  ·obtain ⟨ys,HP,HT,H⟩:∃ ys,Hid (PI a (a+(d+1)) ys0 ys)/\Hid (Hp a (q+1) (d+1) ys)/\Hid (SX 32 w wr g n ys sz):=by
    obtain ⟨ys,h1,h2,h3⟩:=HY.out;exact ⟨ys,hid h2,hid h3,hid h1⟩
   clear HY;go_wp2_with fail
   refine (Gc.out q wr ys oM H.out.self HT.out).mono ?_;rintro e W1 ⟨rfl,zs,h1,h2,h3⟩;have H1:=hid (show SY 32 w W1 g n sz a (a+(d+1)) ys0 (Hp a q (d+1)) from ⟨zs,H.out.trans h1,HP.out.trans h2,h3⟩);clear h1 h2 h3 H HP HT;go_wp2_with fail
   go_roundw
   case rel =>
    repeat apply Exists.intro
    refine ⟨?_,rfl⟩;exact ⟨q,oM,y1p.pred q,H1⟩
   case measure=>simp [RowKit.intOf]
structure PvXU (w wr:World) (g n:Nat) (ys:List Nat) (sz s:Nat):Prop where
 row:SX 32 w wr g n ys sz
 new:w.heap.size<=s
 lt:s < wr.heap.size
 cell:∃ z:Int,wr.cell? ⟨s,0,none⟩=some (.int .i64 z)
 froz:wr.frozen? ⟨s,0,none⟩=false
theorem PvXU.put {w wr:World} {g n sz s:Nat} {ys:List Nat} (h:PvXU w wr g n ys sz s) (hg:s≠g) (z:Int):PvXU w (wr.setCell ⟨s,0,none⟩ (.int .i64 z)) g n ys sz s:=by
 obtain ⟨z0,Ga⟩:=h.cell;exact ⟨h.row.other h.new hg _,h.new,by simpa using h.lt,⟨z,by simp [go_sem,Ga]⟩,by simp [go_sem,h.froz]⟩
theorem PvXU.drewN {w wr:World} {g n sz s:Nat} {ys:List Nat} (h:PvXU w wr g n ys sz s) (k:Nat):PvXU w (wr.drewN k) g n ys sz s :=
 ⟨h.row.drewN k,h.new,h.lt,h.cell,h.froz⟩
def w6z (w:World) (g n:Nat) (ys:List Nat) (sz s a b:Nat) (e:Ending) (w':World):Prop:=∃ x y:Nat,e=.returned (.tuple #[.int .i64 x,.int .i64 y])/\((x=a/\y=b)\/(x=b/\y=a))/\PvXU w w' g n ys sz s
theorem z5y (g n cap sz s a b:Nat) (ys:List Nat) (w wr:World) (h:PvXU w wr g n ys sz s) (hg:s≠g) (ha:a < n) (hb:b < n) :
  Calls Tryz.prog 362 #[.slice (some ⟨g,0,none⟩) n cap,.int .i64 a,.int .i64 b,.pointer (some ⟨s,0,none⟩)] wr (w6z w g n ys sz s a b):=by
 have HP:=hid h;have H:=hid h.row;have HG:=hid hg;clear h;have e1:(a:Int) < (n:Int):=oM;have e2:(b:Int) < (n:Int):=oM;go_enter Tryz.func362,Tryz.ntmps362
 go_wp2_with fail
 obtain ⟨x1,c1,z1,d1⟩:=H.out.at_ (i:=b) oM;obtain ⟨x2,c2,z2,d2⟩:=H.out.at_ (i:=a) oM;obtain ⟨bb,Gb,Gc⟩:=z5j x1 x2;rw [d1.out,d2.out] at Gb;have Gd:=hid Gb;clear Gb;clear d1 d2;go_quiet ((go_at_call 257;exact Calls.quiet_of_same (Gc.out _)))
 have H1:=hid (H.out.drewN nq);clear c1 c2 z1 z2 H Gc;have Ga:=hid (HP.out.drewN nq);clear H1 HP Gd;generalize wr.drewN nq=wd at *;obtain ⟨z,hz⟩:=Ga.out.cell;have hf:=Ga.out.froz;have Ge:=hid (Ga.out.put HG.out (wrap64 (z+1)));cases bb
 ·go_wp2
  go_ret2;exact ⟨a,b,rfl,.inl ⟨rfl,rfl⟩,Ga.out⟩
 ·go_wp2
  go_ret2;exact ⟨b,a,rfl,.inr ⟨rfl,rfl⟩,Ge.out⟩
def w3u (w:World) (g n:Nat) (ys:List Nat) (sz s a b:Nat) (e:Ending) (w':World):Prop:=∃ m:Nat,e=.returned (.int .i64 m)/\a<=m/\m < b/\PvXU w w' g n ys sz s
theorem z5x (g n cap sz s a b x y z:Nat) (ys:List Nat) (w wr:World) (h:PvXU w wr g n ys sz s) (hg:s≠g) (hb:b<=n) (hx:a<=x/\x < b) (hy:a<=y/\y < b) (hz:a<=z/\z < b) :
  Calls Tryz.prog 324 #[.slice (some ⟨g,0,none⟩) n cap,.int .i64 x,.int .i64 y,.int .i64 z,.pointer (some ⟨s,0,none⟩)] wr (w3u w g n ys sz s a b):=by
 have H1:=hid (z5y g n cap sz s x y ys w wr h hg oM oM);have HG:=hid hg;clear h;go_enter Tryz.func324,Tryz.ntmps324
 go_wp2_with fail
 refine H1.out.mono ?_;rintro e w1 ⟨x1,y1,rfl,h1,p1⟩;have Gb:a<=x1/\x1 < b:=oM;have Gc:a<=y1/\y1 < b:=oM;have H2:=hid (z5y g n cap sz s y1 z ys w w1 p1 HG.out oM oM);clear p1 h1 H1;go_wp2_with fail
 refine H2.out.mono ?_;rintro e w2 ⟨y2,z2,rfl,h2,p2⟩;have Gd:a<=y2/\y2 < b:=oM;have H3:=hid (z5y g n cap sz s x1 y2 ys w w2 p2 HG.out oM oM);clear p2 h2 H2;go_wp2_with fail
 refine H3.out.mono ?_;rintro e w3 ⟨x3,y3,rfl,h3,p3⟩;have Ga:a<=y3/\y3 < b:=oM;have H4:=hid p3;clear p3 h3 H3;go_wp2;go_ret;exact ⟨y3,rfl,Ga.1,Ga.2,H4.out⟩
theorem z5w (g n cap sz s a b x:Nat) (ys:List Nat) (w wr:World) (h:PvXU w wr g n ys sz s) (hg:s≠g) (hb:b<=n) (hx:a < x/\x+1 < b) (hn:n<=1000000) :
  Calls Tryz.prog 323 #[.slice (some ⟨g,0,none⟩) n cap,.int .i64 x,.pointer (some ⟨s,0,none⟩)] wr (w3u w g n ys sz s a b):=by
 obtain ⟨x',rfl⟩:∃ x',x=x'+1:=⟨x - 1,oM⟩
 have hm:=z5x g n cap sz s a b x' (x'+1) (x'+2) ys w wr h hg hb oM oM oM;have HM:=hid hm;clear h hm;have u1:IntKind.i64.wrap (x':Int)=(x':Int):=by rw [IntKind.wrap_i64];omega
 go_enter Tryz.func323,Tryz.ntmps323
 go_wp2_with fail
 refine HM.out.mono ?_;rintro e w1 ⟨m,rfl,h1,h2,p⟩;have HP:=hid p;clear p HM;go_wp2;go_ret;exact ⟨m,rfl,h1,h2,HP.out⟩
def w3o (w:World) (g n:Nat) (ys:List Nat) (sz a b:Nat) (e:Ending) (w':World):Prop:=∃ (m:Nat) (k:Int),e=.returned (.tuple #[.int .i64 m,.int .i64 k])/\a<=m/\m < b/\SX 32 w w' g n ys sz
theorem y6a (g n cap sz a l:Nat) (ys:List Nat) (w:World) (h:SX 32 w w g n ys sz) (hb:a+l<=n) (h8:8<=l) (hn:n<=1000000) :
  Calls Tryz.prog 254 #[.slice (some ⟨g,0,none⟩) n cap,.int .i64 a,.int .i64 ((a+l:Nat):Int)] w (w3o w g n ys sz a (a+l)):=by
 have HS:=hid (show PvXU w (w.alloc (.cells #[.int .i64 0] 3)) g n ys sz w.heap.size from ⟨h.alloc _,nL _,by simp,⟨0,by simp [go_sem]⟩,by simp [go_sem]⟩);have HG:Hid (w.heap.size≠g):=hid (by have:=h.lt;omega);obtain ⟨q,HQ⟩:∃ q:Nat,Hid ((l:Int) / 4=(q:Int)/\2<=q/\4 * q<=l):=⟨l / 4,oM,oM,oM⟩
 have ea:Hid ((a:Int)+(l:Int) - (a:Int)=(l:Int)):=hid oM;have c1:Hid ((a:Int)+(q:Int)=((a+q:Nat):Int)):=hid oM;have c2:Hid ((a:Int)+(q:Int) * 2=((a+q * 2:Nat):Int)):=hid oM;have c3:Hid ((a:Int)+(q:Int) * 3=((a+q * 3:Nat):Int)):=hid oM;clear h;go_enter Tryz.func254,Tryz.ntmps254
 go_wp2_with fail
 all_goals generalize w.alloc (.cells #[.int .i64 0] 3)=W at *
 all_goals rw [ea.out,HQ.out.1,c1.out,c2.out,c3.out]
 all_goals obtain ⟨Ga,Gb⟩:=HQ.out.2
 all_goals clear ea HQ c1 c2 c3
 ·refine (z5w g n cap sz w.heap.size a (a+l) (a+q) ys w W HS.out HG.out hb oM hn).mono ?_
  rintro e w1 ⟨x1,rfl,a1,b1,p1⟩;have H1:=hid p1;clear p1;go_wp2_with fail
  refine (z5w g n cap sz w.heap.size a (a+l) (a+q * 2) ys w w1 H1.out HG.out hb oM hn).mono ?_;rintro e w2 ⟨x2,rfl,a2,b2,p2⟩;have H2:=hid p2;clear p2 H1;go_wp2_with fail
  refine (z5w g n cap sz w.heap.size a (a+l) (a+q * 3) ys w w2 H2.out HG.out hb oM hn).mono ?_;rintro e w3 ⟨x3,rfl,a3,b3,p3⟩;have H3:=hid p3;clear p3 H2;go_wp2_with fail
  refine (z5x g n cap sz w.heap.size a (a+l) x1 x2 x3 ys w w3 H3.out HG.out hb ⟨a1,b1⟩ ⟨a2,b2⟩ ⟨a3,b3⟩).mono ?_;rintro e w4 ⟨m,rfl,a4,b4,p4⟩;have H4:=hid p4;obtain ⟨z,hz⟩:=p4.cell;clear p4 H3;go_wp2_with fail
  all_goals (go_ret2;exact ⟨m,_,rfl,a4,b4,H4.out.row⟩)
 ·refine (z5x g n cap sz w.heap.size a (a+l) (a+q) (a+q * 2) (a+q * 3) ys w W HS.out HG.out hb oM oM oM).mono ?_
  rintro e w4 ⟨m,rfl,a4,b4,p4⟩;have H4:=hid p4;obtain ⟨z,hz⟩:=p4.cell;clear p4;go_wp2_with fail
  all_goals (go_ret2;exact ⟨m,_,rfl,a4,b4,H4.out.row⟩)
def w7g (w:World) (g n:Nat) (sz a b:Nat) (ys:List Nat) (e:Ending) (w':World):Prop:=∃ c:Bool,e=.returned (.bool c)/\SX 32 w w' g n ys sz/\(c=true->Srt a b ys)
theorem y4w (g n cap sz a b:Nat) (ys:List Nat) (w:World) (h:SX 32 w w g n ys sz) (hab:a < b) (hb:b<=n) (h50:b < a+50) (hn:n<=1000000) :
  Calls Tryz.prog 256 #[.slice (some ⟨g,0,none⟩) n cap,.int .i64 a,.int .i64 b] w (w7g w g n sz a b ys):=by
 have H:=hid h;clear h;go_enter Tryz.func256,Tryz.ntmps256
 go_wp2;refine wp_loop_rounds 1 ?_;rw [rounds_succ];go_upto_block 2 with fail
 go_cut [7] from 13 to 132 (fun v wx=>∃ k:Nat,v=.int .i64 k/\a+1<=k/\k<=b/\Hid (Srt a k ys)/\Hid (SX 32 w wx g n ys sz))
 case first =>
  go_wp2_with fail
  go_loopw [7] (fun i wr=>∃ k:Nat,a+1<=k/\k<=b/\i=.int .i64 k/\Hid (Srt a k ys)/\Hid (SX 32 w wr g n ys sz)) (fun i _=>b - (RowKit.intOf i).toNat)
  case atStart=>exact ⟨a+1,oM,oM,by go_num,hid (Srt.one _ _),H⟩
  case round =>
   clear H;obtain ⟨k,Gc,Gd,rfl,HS,H⟩:=hrel;by_cases hle:k < b
   ·obtain ⟨q',rfl⟩:∃ q',k=q'+1:=⟨k - 1,oM⟩
    have e2:(q':Int)+1 < (n:Int):=oM;have e3:(q':Int) < (n:Int):=oM;have e4:decide ((q':Int)+1 < (b:Int))=true:=dT;have e6:((q':Int)+1).toNat=q'+1:=oM;have e8:IntKind.i64.wrap (q':Int)=(q':Int):=by rw [IntKind.wrap_i64];omega
    have e9:(0:Int)<=(q':Int)+1:=oM;go_wp2_with fail
    obtain ⟨x1,c1,z1,d1⟩:=H.out.at_ (i:=(q'+1)) oM;obtain ⟨x2,c2,z2,d2⟩:=H.out.at_ (i:=q') oM;obtain ⟨bb,Ga,Ge⟩:=z5j x1 x2;rw [d1.out,d2.out] at Ga;have Gb:=hid Ga;clear Ga;clear d1 d2;go_quiet ((go_at_call 257;exact Calls.quiet_of_same (Ge.out _)))
    have H1:=hid (H.out.drewN nq);clear c1 c2 z1 z2 H Ge;cases bb
    ·have HB:=hid (Nat.not_lt.mp (of_decide_eq_false Gb.out.symm))
     clear Gb;go_wp2_with fail
     go_roundw
     case rel=>exact ⟨q'+2,oM,oM,by go_num,hid (HS.out.snoc HB.out),H1⟩
     case measure=>simp [RowKit.intOf];omega
    ·clear Gb
     go_wp2_with fail
     go_meet;exact ⟨q'+1,by go_num,Gc,Gd,HS,H1⟩
   ·have e4:decide ((k:Int) < (b:Int))=false:=dF
    go_wp2_with fail
    go_quiet (fail)
    have H1:=hid (H.out.drewN nq);go_wp2_with fail
    go_meet;exact ⟨k,rfl,Gc,Gd,HS,H1⟩
 case rest =>
  clear H;obtain ⟨k,rfl,Gc,Gd,HS,H⟩:=hcut;by_cases hkb:k=b
  ·subst hkb
   go_wp2_with fail
   go_ret;exact ⟨true,rfl,H.out,fun _=>HS.out⟩
  ·have e1:((k:Int) == (b:Int))=false:=by
    rw [beq_eq_false_iff_ne];omega
   have e2:decide ((b:Int) - (a:Int) < 50)=true:=dT;go_wp2_with fail
   go_ret;exact ⟨false,rfl,H.out,fun h=>by cases h⟩
structure RnXU (w wr:World) (g n:Nat) (ys:List Nat) (sz s:Nat):Prop where
 row:SX 32 w wr g n ys sz
 new:w.heap.size<=s
 ne:s≠g
 ran:∃ z:Nat,z < 18446744073709551616/\Blk wr s 412 #[.int .u64 z]
theorem RnXU.next {w wr:World} {g n sz s:Nat} {ys:List Nat} (h:RnXU w wr g n ys sz s) (v:Nat) (hv:v < 18446744073709551616):RnXU w ((wr.setCell ⟨s,0,none⟩ (.int .u64 v)).drewN 3) g n ys sz s:=by
 obtain ⟨z,_,hB⟩:=h.ran;exact ⟨(h.row.other h.new h.ne _).drewN 3,h.new,h.ne,v,hv,(hB.set_ 0 _).drewN 3⟩
theorem RnXU.swap {w wr:World} {g n sz s:Nat} {ys:List Nat} (h:RnXU w wr g n ys sz s) {i j x y:Nat} (hi:i < n) (hj:j < n) (hx:wr.cell? ⟨g,i,none⟩=some (.int .u64 x)) (hy:wr.cell? ⟨g,j,none⟩=some (.int .u64 y)) (ex:x=gv ys i) (ey:y=gv ys j) :
  RnXU w (((wr.setCell ⟨g,i,none⟩ (.int .u64 y)).setCell ⟨g,j,none⟩ (.int .u64 x))).drew g n (sw ys i j) sz s:=by
 obtain ⟨z,hz,hB⟩:=h.ran;exact ⟨(h.row.swap hi hj hx hy ex ey).drew,h.new,h.ne,z,hz,((hB.far h.ne _).far h.ne _).drew⟩
theorem RnXU.start {w:World} {g n sz:Nat} {ys:List Nat} (h:SX 32 w w g n ys sz) (l:Nat) (hl:l < 18446744073709551616):RnXU w (w.alloc (.cells #[.int .u64 l] 412)) g n ys sz w.heap.size :=
 ⟨h.alloc _,nL _,by have:=h.lt;omega,l,hl,Blk.new _ _ _⟩
theorem y8s (g n cap sz a l:Nat) (ys0:List Nat) (w:World) (h:SX 32 w w g n ys0 sz) (hb:a+l<=n) (h8:8<=l) (hn:n<=1000000) (hc:n<=cap) (hcm:cap<=9223372036854775807) :
  Calls Tryz.prog 253 #[.slice (some ⟨g,0,none⟩) n cap,.int .i64 a,.int .i64 ((a+l:Nat):Int)] w (RetX 32 w g n sz a (a+l) ys0 (fun _=>True)):=by
 have HR:=hid (RnXU.start h l oM);have Gc:=hid h.len;have HP:=hid (y0z l oM oM);have e1:IntKind.u64.wrap (l:Int)=(l:Int):=by rw [IntKind.wrap_u64];omega
 clear h;go_enter Tryz.func253,Tryz.ntmps253
 go_wp2_with fail
 rw [show ((a:Int)+(l:Int) - (a:Int))=(l:Int) by omega];refine (HP.out _).mono ?_;rintro e w1 ⟨M,rfl,Ge,Gf,rfl⟩;clear HP;generalize w.alloc (.cells #[.int .u64 l] 412)=W at *;go_wp2_with fail
 go_loopw [9] (fun vi wr=>∃ (P:Nat) (ys:List Nat),vi=.int .i64 P/\a+l / 4 * 2<=P+1/\P<=a+l / 4 * 2+2/\Hid (PI a (a+l) ys0 ys)/\Hid (RnXU w wr g n ys sz w.heap.size)) (fun vi _=>a+l / 4 * 2+3 - (RowKit.intOf vi).toNat)
 case atStart=>exact ⟨a+l / 4 * 2 - 1,ys0,by congr 1;omega,oM,oM,hid (PI.refl _ _ _),HR⟩
 case round =>
  clear HR;obtain ⟨P,ys,rfl,Gg,Gh,HI,HR⟩:=hrel;by_cases hP:P<=a+l / 4 * 2+1
  ·have e2:decide ((P:Int)<=(a:Int)+(l:Int) / 4 * 2+1)=true:=dT
   obtain ⟨z,hz,hB⟩:=HR.out.ran;have HN:=hid (x1p w.heap.size z hz wr (hB.cell 0) (hB.frozen 0));have e3:(P:Int) < (n:Int):=oM;clear hB hz;go_wp2_with fail
   refine HN.out.mono ?_;rintro e w2 ⟨R,hR,rfl,rfl⟩;obtain ⟨O,hO⟩:∃ O:Nat,O=R &&& (M - 1):=⟨_,rfl⟩
   have lO:O<=M - 1:=by rw [hO];exact Nat.and_le_right
   have Gd:bits .and .u64 (R:Int) ((M:Int) - 1)=(O:Int):=by
    rw [show ((M:Int) - 1)=((M - 1:Nat):Int) by omega,bits_and_u64_nat _ _ hR (oM),hO]
   have Ga:=hid (HR.out.next R hR);clear hO HN HR;generalize (wr.setCell ⟨w.heap.size,0,none⟩ (.int .u64 R)).drewN 3=wr at *;by_cases hLO:l<=O
   ·have e4:decide ((l:Int)<=(O:Int))=true:=dT
    obtain ⟨K,hK⟩:∃ K:Nat,K=a+(O - l):=⟨_,rfl⟩
    have k0:a<=K/\K < a+l:=oM;have k1:(0:Int)<=(a:Int)+((O:Int) - (l:Int)):=oM;have k2:(a:Int)+((O:Int) - (l:Int)) < (n:Int):=oM;have k3:((a:Int)+((O:Int) - (l:Int))).toNat=K:=oM;clear hK;go_wp2_with fail
    obtain ⟨x1,c1,z1,d1⟩:=Ga.out.row.at_ (i:=P) oM;obtain ⟨x2,c2,z2,d2⟩:=Ga.out.row.at_ (i:=K) oM;obtain ⟨x3,c3⟩:=Ga.out.row.mid (i:=P) (j:=K) oM (.int .u64 x2);have H1:=hid (Ga.out.swap oM oM c1 c2 d1.out d2.out);have Gb:=hid (HI.out.step (i:=P) (j:=K) oM k0 (by have:=HI.out.len;have:=Gc.out;omega));clear Ga d1 d2 HI k0;by_cases hEq:P=K
    ·subst hEq
     obtain rfl:x1=x2:=by
      rw [c1] at c2;simp at c2;omega
     go_region;clear c1 c2 c3 z1 z2;go_wp2_with fail
     go_roundw
     case rel=>exact ⟨P+1,_,by go_num,oM,oM,Gb,H1⟩
     case measure=>simp [RowKit.intOf];omega
    ·go_region
     clear c1 c2 c3 z1 z2;go_wp2_with fail
     go_roundw
     case rel=>exact ⟨P+1,_,by go_num,oM,oM,Gb,H1⟩
     case measure=>simp [RowKit.intOf];omega
   ·have e4:decide ((l:Int)<=(O:Int))=false:=dF
    obtain ⟨K,hK⟩:∃ K:Nat,K=a+O:=⟨_,rfl⟩
    have k0:a<=K/\K < a+l:=oM;have k1:(0:Int)<=(a:Int)+(O:Int):=oM;have k2:(a:Int)+(O:Int) < (n:Int):=oM;have k3:((a:Int)+(O:Int)).toNat=K:=oM;clear hK;go_wp2_with fail
    obtain ⟨x1,c1,z1,d1⟩:=Ga.out.row.at_ (i:=P) oM;obtain ⟨x2,c2,z2,d2⟩:=Ga.out.row.at_ (i:=K) oM;obtain ⟨x3,c3⟩:=Ga.out.row.mid (i:=P) (j:=K) oM (.int .u64 x2);have H1:=hid (Ga.out.swap oM oM c1 c2 d1.out d2.out);have Gb:=hid (HI.out.step (i:=P) (j:=K) oM k0 (by have:=HI.out.len;have:=Gc.out;omega));clear Ga d1 d2 HI k0;by_cases hEq:P=K
    ·subst hEq
     obtain rfl:x1=x2:=by
      rw [c1] at c2;simp at c2;omega
     go_region;clear c1 c2 c3 z1 z2;go_wp2_with fail
     go_roundw
     case rel=>exact ⟨P+1,_,by go_num,oM,oM,Gb,H1⟩
     case measure=>simp [RowKit.intOf];omega
    ·go_region
     clear c1 c2 c3 z1 z2;go_wp2_with fail
     go_roundw
     case rel=>exact ⟨P+1,_,by go_num,oM,oM,Gb,H1⟩
     case measure=>simp [RowKit.intOf];omega
  ·have e2:decide ((P:Int)<=(a:Int)+(l:Int) / 4 * 2+1)=false:=dF
   go_wp2_with fail
   go_end0;exact ⟨rfl,ys,HR.out.row,HI.out,trivial⟩
end
end Go.Proofs.YtfkjjoglnmeciaaGreatDoor
