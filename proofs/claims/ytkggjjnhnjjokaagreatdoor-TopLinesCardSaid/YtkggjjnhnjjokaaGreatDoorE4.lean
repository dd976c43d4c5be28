/- Part of a proof. -/
import Derived.Test.YtkggjjnhnjjokaaGreatDoorE3
import Derived.Lib.BytesEntry
import Derived.Test.YtkggjjnhnjjokaaGreatDoorE1
import Derived.Test.YtkggjjnhnjjokaaGreatDoorE2
import Derived.Maps.Keyed
set_option maxRecDepth 20000
set_option linter.unusedSimpArgs false
set_option linter.unusedVariables false
namespace Go.Proofs.YtkggjjnhnjjokaaGreatDoor
open Go.ax Go.Kb
theorem ab2(n:Int):pq Tryz.prog 126 [.int .i64 n] (.bool (decide (n=32)||decide (n=128))):=⟨fun w=>by
 refine cC Tryz.func126 rfl Tryz.ntmps126 rfl ?_;refine aY ?_;refine bP rfl rfl rfl (fun hg=>(bl rfl).yl) (bP rfl rfl rfl (fun hg=>(et (aE hg rfl) rfl rfl).yl) (al ?_));refine gP (.inl rfl) (kb rfl rfl) (fun w hw=>?_);exact⟨rfl,hw.sub (arB _)⟩⟩
instance amO(n:Int):pq Tryz.prog 126 [.int .i64 n] (.bool (decide (n=32)||decide (n=128))):=ab2 n
theorem ab3(k:Key)(h:Nat)(hh:h<=16):over (bN 0#128) 0 ((bN k).extract 0 h)=bN (dB k ((8*h:Nat):Int)):=by
 refine ID (by simp[over,fR];omega) fun i hi=>?_;have hl:((bN k).extract 0 h).size=h:=by simp[fR];omega
 rw[BX k (8*h) i hi];simp only[over,hl,arz,arJ,ary,aso]
 by_cases h1:i<h
 ·
  rw[aq4 (by simp[fR];omega),if_pos oM];have:=jQ k i hi;simpa[h1]using this
 rw[aq3 (by simp[fR];omega),if_neg oM];have h2:(bN 0#128)[i]? =some (.int .u8 ((0:Nat):Int)):=by rw[jQ _ i hi];simp[aW]
 simp only[asT,hl,asa,show h+(i -h)=i by omega];rw[Array.getElem?_toList,h2]
 by_cases h3:8*i<=8*h
 ·
  rw[if_pos h3,show 8 -(8*h -8*i)=8 by omega,Nat.div_eq_of_lt (gR k i),Nat.zero_mul]
 rw[if_neg h3]
theorem ab4(b r:Nat)(hb:b<256)(hr:r<=8):lL .andNot .u8 b ((255/2^r:Nat):Int)=some (.int .u8 ((b/2^(8 -r)*2^(8 -r):Nat):Int)):=by
 have hm:255/2^r<256:=asE (Nat.div_le_self _ _) oM;rw[Wl hb hm];have key:b&&&(256 -1 -255/2^r)=b/2^(8 -r)*2^(8 -r):=by
  have e1:255/2^r=2^(8 -r) -1:=by
   match r,hr with
   |0,_|1,_|2,_|3,_|4,_|5,_|6,_|7,_|8,_=>rfl
   |n+9,h=>omega
  rw[e1];apply atl;intro j;have e2:256 -1 -(2^(8 -r) -1)=2^8 -(2^(8 -r) -1+1):=by omega
  rw[Nat.testBit_and,e2,Nat.testBit_two_pow_sub_succ (by have:2^(8 -r)<=2^8:=ar2 (by decide) oM;have:=Nat.two_pow_pos (8 -r);omega),Nat.testBit_two_pow_sub_one,Nat.testBit_mul_two_pow,as8]
  by_cases hj:8 -r<=j
  ·
   simp only[hj,show ¬j<8 -r by omega,decide_true,decide_false,asR,Bool.and_true,arH,show j -(8 -r)+(8 -r)=j by omega]
   by_cases h8:j<8
   ·
    simp[h8]
   have:b.testBit j=false:=asH (arM hb (by have:=ar2 (n:=2) (by decide) (show 8<=j by omega);simpa using this));simp[this]
  simp[hj,show j<8 -r by omega]
 show some (Value.int .u8 ((b&&&(256 -1 -255/2^r):Nat):Int))=_;rw[key]
theorem ab5(k:Key)(n:Int)(h0:1<=n)(h1:n<128)(h2:0<n%8):(bN (dB k ((8*(n/8).toNat:Nat):Int))).setIfInBounds (n/8).toNat (.int .u8 ((aW k (n/8).toNat/2^(8 -(n%8).toNat)*2^(8 -(n%8).toNat):Nat):Int))=bN (dB k n):=by
 have hb:=gR k (n/8).toNat;rw[Xj _ _ _ oM (asE (Nat.div_mul_le_self _ _) hb)];congr 1;refine td fun i hi=>?_;rw[IC _ _ _ i hi (asE (Nat.div_mul_le_self _ _) hb),BX k _ i hi];have e:dB k n=dB k ((n.toNat:Nat):Int):=by rw[arY oM]
 rw[e,BX k n.toNat i hi]
 by_cases hj:i=(n/8).toNat
 ·
  rw[if_pos hj,if_neg oM,if_pos oM,hj,show n.toNat -8*(n/8).toNat=(n%8).toNat by omega]
 rw[if_neg hj]
 by_cases bb:i<(n/8).toNat
 ·
  rw[if_pos oM,if_pos oM]
 rw[if_neg oM,if_neg oM,if_neg oM,if_neg oM]
theorem ab6(k:Key)(n:Int)(h0:1<=n)(h2: ¬0<n%8):dB k ((8*(n/8).toNat:Nat):Int)=dB k n:=by
 congr 1;omega
theorem ab7(k:Key)(n:Int):pq Tryz.prog 22 [.agg (bN k), .int .i64 n] (.agg (bN (dB k n))):=⟨fun w=>by
 refine cQ Tryz.func22 rfl Tryz.ntmps22 rfl ?_;refine Gc ?_;refine bY rfl fun b2=>bt fun b4=>au ?_;refine je rfl (fun h0=>?_) (fun h0=>?_)
 ·
  have h0:=of_decide_eq_true h0;refine au ?_;refine gP (.inl rfl) (Ef rfl rfl) (fun w hw=>?_);exact⟨by rw[Ob k n oM],hw.sub (arB _)⟩
 have h0:=of_decide_eq_false h0;refine Gc ?_;refine bt fun b5=>au ?_;refine je rfl (fun h1=>?_) (fun h1=>?_)
 ·
  have h1:=of_decide_eq_true h1;refine au ?_;refine gP (.inl rfl) (Ef rfl rfl) (fun w hw=>?_);exact⟨by rw[Ez k n oM],hw.sub (arB _)⟩
 have h1:=of_decide_eq_false h1;refine ay ?_;refine ag (mj rfl rfl oM oM) (Gs ?_);refine kE ?_;refine vM 4 [] oK oK ?_;simp only[ar6,arz];refine Gq ?_;refine bH (HZ rfl rfl oM oM) (Gq ?_);refine bH (HZ rfl rfl oM oM) (uo (uq ?_));simp only[asK,ase];refine H9 (vs:=(bN k).extract 0 (n/8).toNat) rfl rfl (by have e:Nat.min (n/8).toNat (n/8).toNat=(n/8).toNat:=Nat.min_self _;rw[e,Array.size_extract,fR];omega) (fun w hw j hj=>by rw[Addr.gN,hw.cell (Has.h (b:=b2)),ary];simp at hj;simp[hj]) (Wo (fP.one (cs:=bN k)) _ _) (by rw[Array.size_extract,fR,fR];omega) (ab3 k _ oM) (ay ?_);refine ag (zl rfl rfl oM oM) (aO ?_);refine je rfl (fun h2=>?_) (fun h2=>?_)
 ·
  have h2:=of_decide_eq_true h2;refine vM 8 [] oK oK ?_;simp only[ar6,arz];refine ay ?_;refine bH (p6 rfl rfl oM oM) (bH (zf rfl (jQ _ _ oM)) (Gq ?_));refine bH (um (p:=255) rfl rfl (by decide) oM) (bH (et rfl rfl (ab4 _ _ (gR _ _) oM)) (bH (p6 rfl rfl oM oM) (uo (uq ?_))));simp only[asK,ase];refine eN rfl rfl (by rw[fR];omega) rfl (ab5 k n oM oM h2) (au ?_);refine gP (.inl rfl) (Ef rfl rfl) (fun w hw=>?_);exact⟨rfl,hw.sub (arB _)⟩
 have h2:=of_decide_eq_false h2;refine au ?_;refine gP (.inl rfl) (Ef rfl rfl) (fun w hw=>?_);exact⟨by rw[ab6 k n oM h2],hw.sub (arB _)⟩⟩
instance amP(k:Key)(n:Int):pq Tryz.prog 22 [.agg (bN k), .int .i64 n] (.agg (bN (dB k n))):=ab7 k n
theorem ab8(k:Key)(n:Int):pq Tryz.prog 125 [.agg (bN k), .int .i64 n] (.int .i64 (iR k n)):=⟨fun w=>by
 refine cQ Tryz.func125 rfl Tryz.ntmps125 rfl ?_;refine Gc ?_;refine bY rfl fun b2=>aO ?_;refine bP rfl rfl rfl (fun hg=>(bl rfl).yl) (bP rfl rfl rfl (fun hg=>(et (aE hg rfl) rfl rfl).yl) (ay ?_));refine je rfl (fun h0=>?_) (fun h0=>?_)
 ·
  simp at h0;refine al ?_;refine gP (.inl rfl) (kb rfl rfl) (fun w hw=>?_);exact⟨by rw[Xm k n oM],hw.sub (arB _)⟩
 simp at h0;refine ay ?_;refine ag (mj rfl rfl oM oM) (ag (p6 rfl rfl oM oM) (ag (zf rfl (jQ _ _ oM)) (ag (kZ rfl (arM (gR _ _) (by decide))) (al ?_))));refine ag (zl rfl rfl oM oM) (ay ?_);refine je rfl (fun h1=>?_) (fun h1=>?_)
 ·
  simp at h1;refine ay ?_;refine ag (um rfl rfl (arM (gR _ _) (by decide)) oM) (ay ?_);refine gP (.inl rfl) (kb rfl rfl) (fun w hw=>?_);exact⟨by rw[Xp k n oM oM oM];rfl,hw.sub (arB _)⟩
 simp at h1;refine ay ?_;refine ag (H2 (q:=15) rfl rfl rfl rfl (arM (gR _ _) (by decide)) (by decide)) (ay ?_);refine gP (.inl rfl) (kb rfl rfl) (fun w hw=>?_);exact⟨by rw[Xq k n oM oM oM,←Nat.and_two_pow_sub_one_eq_mod _ 4],hw.sub (arB _)⟩⟩
instance amQ(k:Key)(n:Int):pq Tryz.prog 125 [.agg (bN k), .int .i64 n] (.int .i64 (iR k n)):=ab8 k n
theorem ab9(p:bo):pq Tryz.prog 57 [.agg (db p)] (.bool (bj p)):=⟨fun w=>by
 refine cC Tryz.func57 rfl Tryz.ntmps57 rfl ?_;refine Gc ?_;refine bY rfl fun b1=>au ?_;refine dR (zh rfl) (ay ?_);refine bP rfl rfl rfl (fun hg=>(aP (o':=1) rfl rfl).yl) (bP rfl rfl rfl (fun hg=>(bW (aE hg rfl)).yl) (bP rfl rfl rfl (fun hg=>(et (aE hg rfl) rfl rfl).yl) (ay ?_)));refine bP rfl rfl rfl (fun hg=>(aP (o':=1) rfl rfl).yl) (bP rfl rfl rfl (fun hg=>(bW (aE hg rfl)).yl) (bP rfl rfl rfl (fun hg=>(aP (o':=0) rfl rfl).yl) (bP rfl rfl rfl (fun hg=>(bW (aE hg rfl)).yl) (bP rfl rfl rfl (fun hg=>(et (aE hg rfl) (aE hg rfl) rfl).yl) (ay ?_)))));refine je rfl (fun h0=>?_) (fun h0=>?_)
 ·
  refine al ?_;refine gP (.inl rfl) (kb rfl rfl) (fun w hw=>?_);refine⟨?_,hw.sub (arB _)⟩;have:bj p=false:=by unfold bj;simp at h0⊢;omega
  rw[this]
 refine Gc ?_;refine gO oK oK (Gq ?_);refine bH (iJ rfl) (ay ?_);refine sW (zh rfl) (Gq ?_);refine bH (iJ rfl) (bH (HY rfl rfl) (ay ?_));refine gP (.inl rfl) (kb rfl rfl) (fun w hw=>?_);refine⟨?_,hw.sub (arB _)⟩;congr 2;unfold bj;simp at h0⊢;obtain⟨⟨h1,h2⟩,h3⟩:=h0;simp[h2,h3,show p.bits=32\/p.bits=128 by omega]⟩
instance amR(p:bo):pq Tryz.prog 57 [.agg (db p)] (.bool (bj p)):=ab9 p
open Go.RowKit
def sA(k:Key):List Int:=(List.range 16).map fun i=>(aW k i:Int)
theorem Sa(k:Key)(j:Nat)(x:Int)(h:(sA k)[j]? =some x):j<16/\x=aW k j:=by
 have hl:j<16:=by have:=(ad2.1 h).1;simpa[sA]using this
 refine⟨hl,?_⟩;simp[sA,hl]at h;exact h.symm
theorem aca{x y:UInt8}{xs ys:List UInt8}:Lib.compareBytes (x::xs) (y::ys)=if x.toNat<y.toNat then -1 else if y.toNat<x.toNat then 1 else Lib.compareBytes xs ys:=by
 simp[Lib.compareBytes,UInt8.lt_iff_toNat_lt]
theorem Sb(a b:Key): ∀(n i:Nat),i+n=16->(∀j,j<i->aW a j=aW b j)->
  Lib.compareBytes ((List.range' i n).map fun j=>(aW a j).toUInt8) ((List.range' i n).map fun j=>(aW b j).toUInt8)=qT a b
 |0,i,hi,hs=>by
  have:a=b:=td fun j hj=>hs j (by omega);subst this;simp[Lib.compareBytes,qT]
 |n+1,i,hi,hs=>by
  have ha:=gR a i;have hb:=gR b i;rw[List.range'_succ,arh,arh,aca];have ea:(aW a i).toUInt8.toNat=aW a i:=by simp;omega
  have eb:(aW b i).toUInt8.toNat=aW b i:=by simp;omega
  rw[ea,eb]
  by_cases h1:aW a i<aW b i
  ·
   rw[if_pos h1];have:=Oe (by omega) hs h1;unfold qT;rw[if_pos this]
  ·
   rw[if_neg h1]
   by_cases h2:aW b i<aW a i
   ·
    rw[if_pos h2];have:=Oe (by omega) (fun j hj=>(hs j hj).symm) h2;unfold qT;rw[if_neg (by omega),if_pos this]
   ·
    rw[if_neg h2];exact Sb a b n (i+1) (by omega) fun j hj=>by
     by_cases e:j=i
     ·
      subst e;omega
     ·
      exact hs j (by omega)
theorem Sc(k:Key):(⟨ByteArray.empty.data++(Lib.bytesOf (sA k)).toArray⟩:ByteArray).data.toList=(List.range' 0 16).map fun j=>(aW k j).toUInt8:=by
 simp[Lib.bytesOf,sA,List.range_eq_range']
theorem acb(a b:Key)(p q:Addr)(c c':Nat)(w:World)(hp: ∀j,j<16->w.cell? (p.add j)=some (.int .u8 (aW a j)))(hq: ∀j,j<16->w.cell? (q.add j)=some (.int .u8 (aW b j))):
  Calls Tryz.prog 66 [.slice (some p) 16 c, .slice (some q) 16 c'].toArray w fun e w'=>e= .returned (.int .i64 (qT a b))/\Mem w [] w':=by
 refine zq (args:=[_,_]) Tryz.func66 rfl Tryz.ntmps66 rfl ?_;change Cw _ _ _ _ _ [(0, .slice (some p) 16 c),(1, .slice (some q) 16 c')] [];refine D8 ?_;refine D9 ?_;refine ag (ie rfl) ?_;refine D6 ?_;refine Ed ?_;refine D8 ?_;refine D9 ?_;refine ag (bl rfl) ?_;refine ag (bl rfl) ?_;refine ag (v:= .int .i64 (qT a b)) ?_ ?_
 ·
  intro aa w1 ha hw;have pC: ∀j,j<16->w1.cell? (p.add j)=some (.int .u8 (aW a j)):=fun j hj=>by
   rw[←hp j hj];exact hw.below.cell (block_lt_of_cell (hp j hj))
  have hqb: ∀j,j<16->w1.cell? (q.add j)=some (.int .u8 (aW b j)):=fun j hj=>by
   rw[←hq j hj];exact hw.below.cell (block_lt_of_cell (hq j hj))
  have r1:=Lib.run_loadBytesX (P:=Tryz.prog) w1 (sA a) p .empty (fun j x hx=>by obtain⟨h1,rfl⟩:=Sa a j x hx;exact pC j h1);have r2:=Lib.run_loadBytesX (P:=Tryz.prog) w1 (sA b) q .empty (fun j x hx=>by obtain⟨h1,rfl⟩:=Sa b j x hx;exact hqb j h1);have l1:(sA a).length=16:=by simp[sA]
  have l2:(sA b).length=16:=by simp[sA]
  rw[l1]at r1;rw[l2]at r2;have e5:=ha.ev (x:= .tmp 5) (v:= .slice (some p) 16 c) rfl;have e6:=ha.ev (x:= .tmp 6) (v:= .slice (some q) 16 c') rfl;have gq:(callFunc 136 #[.slice (some p) 16 c, .slice (some q) 16 c']).run Tryz.prog w1= .ok (.value (.int .i64 (qT a b))) w1:=by
   rw[run_callFunc_extern Tryz.func136 (by kernel_rfl) (by kernel_rfl) (by kernel_rfl) (e:=Extern.BytealgCompare.compare) (by kernel_rfl)];have:(Extern.BytealgCompare.compare #[.slice (some p) 16 c, .slice (some q) 16 c']).run Tryz.prog w1= .ok (.int .i64 (qT a b)) w1:=by
    change Sem.run Tryz.prog (do pure (goInt (Extern.BytealgCompare.cmp (←Extern.Bytes.bytesOf (.slice (some p) 16 c)) (←Extern.Bytes.bytesOf (.slice (some q) 16 c'))))) w1=_;simp only[Extern.Bytes.bytesOf,Sem.run_bind,r1,r2,Sem.run_pure,Result.andThen];rw[Lib.cmp_eq,Sc,Sc,Sb a b 16 0 rfl (fun j h=>by omega)];rfl
   rw[this];rfl
  simp[execOp,resolve,Act.eval,Deferred.ofValue,invoke]at e5 e6⊢;rw[e5,e6,gq]
 refine ag (ie rfl) ?_;refine D6 ?_;refine Ed ?_;refine Ib ?_;refine gP (.inl rfl) (kb rfl rfl) (fun w hw=>?_);exact⟨rfl,hw.sub (arB _)⟩
theorem Sd{w0 w:World}{L:List aj}{b:Nat}{p:bo}{T:TypeId}{i:Nat}(hw:Mem w0 L w)[hh:Has L b (db p) T i](j:Nat)(hj:j<16):w.cell? ((⟨b,2,none⟩:Addr).add j)=some (.int .u8 (aW p.key j)):=by
 rw[Addr.gN,hw.cell hh.h,qS,jQ _ j hj]
theorem KC{p q:bo}(h1:bj p=true)(h2:bj q=true):dt p q=(if p.bits≠q.bits then decide (p.bits=32)else if p.key≠q.key then decide (p.key.toNat<q.key.toNat)else decide (p.len<q.len)):=by
 unfold dt;rw[h1,h2];rfl
theorem acd(p q:bo):pq Tryz.prog 58 [.agg (db p), .agg (db q)] (.bool (dt p q)):=⟨fun w=>by
 refine cQ Tryz.func58 rfl Tryz.ntmps58 rfl ?_;refine Gc ?_;refine bY rfl fun b2=>bY rfl fun b3=>al ?_;refine dR (zh rfl) (ay ?_);refine bP rfl rfl rfl (fun hg=>(jO rfl).yl) (bP rfl rfl rfl (fun hg=>zh (eC (aE hg rfl) iI)) (bP rfl rfl rfl (fun hg=>(nj (aE hg rfl)).yl) (ay ?_)));refine je rfl (fun h0=>?_) (fun h0=>?_)
 ·
  simp at h0;refine al ?_;refine gP (.inl rfl) (kb rfl rfl) (fun w hw=>?_);refine⟨?_,hw.sub (arB _)⟩;have:dt p q=false:=by unfold dt;cases h1:bj p<;>cases h2:bj q<;>simp_all
  rw[this]
 simp at h0;obtain⟨m1,m2⟩:=h0;refine c6 ?_;refine je rfl (fun h1=>?_) (fun h1=>?_)
 ·
  simp at h1;refine aY ?_;refine gP (.inl rfl) (kb rfl rfl) (fun w hw=>?_);exact⟨by rw[KC m1 m2,if_pos h1],hw.sub (arB _)⟩
 simp at h1;refine Gc ?_;refine gO oK oK (Gq ?_);refine bH (xz rfl) (Gq ?_);refine bH (xz rfl) (sW (D3 rfl (fun w hw=>acb p.key q.key _ _ _ _ w (Sd hw) (Sd hw))) (aO ?_));refine je rfl (fun h2=>?_) (fun h2=>?_)
 ·
  simp at h2;refine aO ?_;refine gP (.inl rfl) (kb rfl rfl) (fun w hw=>?_);exact⟨by rw[KC m1 m2,if_neg (by simpa using h1),if_pos (fun e=>h2 ((Og _ _).2 e)),decide_eq_decide.2 (Xs _ _)],hw.sub (arB _)⟩
 simp at h2;refine fx ?_;refine gP (.inl rfl) (kb rfl rfl) (fun w hw=>?_);exact⟨by rw[KC m1 m2,if_neg (by simpa using h1),if_neg (by simpa using(Og _ _).1 h2)],hw.sub (arB _)⟩⟩
instance amS(p q:bo):pq Tryz.prog 58 [.agg (db p), .agg (db q)] (.bool (dt p q)):=acd p q
instance amT:fa Tryz.prog 22 34 19 40:=⟨Tryz.underlying22,by kernel_rfl⟩
instance amU:fa Tryz.prog 45 47 20 48:=⟨Tryz.underlying45,by kernel_rfl⟩
instance amV:eI Tryz.prog 53 (.slice none 0 0):=⟨by kernel_rfl⟩
instance amW:fa Tryz.prog 53 5 1 1:=⟨Tryz.underlying53,by kernel_rfl⟩
instance amX:fa Tryz.prog 56 180 4 48:=⟨Tryz.underlying56,by kernel_rfl⟩
instance amY:fa Tryz.prog 57 97 4 16:=⟨Tryz.underlying57,by kernel_rfl⟩
instance amZ:fa Tryz.prog 60 3 1 8:=⟨Tryz.underlying60,by kernel_rfl⟩
instance am0:fa Tryz.prog 122 225 48 384:=⟨Tryz.underlying122,by kernel_rfl⟩
instance am1:fa Tryz.prog 155 9 1 16:=⟨Tryz.underlying155,by kernel_rfl⟩
instance am2:fa Tryz.prog 178 53 1 24:=⟨Tryz.underlying178,by kernel_rfl⟩
instance am3:fa Tryz.prog 191 269 2 32:=⟨Tryz.underlying191,by kernel_rfl⟩
instance am4:fa Tryz.prog 366 60 1 24:=⟨Tryz.underlying366,by kernel_rfl⟩
instance am5:fa Tryz.prog 396 178 1 24:=⟨Tryz.underlying396,by kernel_rfl⟩
instance am6:fa Tryz.prog 399 402 4 32:=⟨Tryz.underlying399,by kernel_rfl⟩
instance am7:fa Tryz.prog 443 433 1 8:=⟨Tryz.underlying443,by kernel_rfl⟩
instance:bm aA 19:=⟨k8,fun r=>by
 have h:(db r.p).all (·.oneCell')=true:=(inferInstance:fP (db r.p) 18).one;rw[aA,Array.all_append,h];simp[Value.oneCell']⟩
instance:Deep Rt:=Deep.flat aA 19
instance:fZ Rt aA 19:=⟨rfl,fun _=>rfl⟩
instance (r:Rt):fP (aA r) 19:=⟨k8 r,bm.one r⟩
instance (r:Rt):nk (aA r) 0 18 (db r.p):=⟨qd _,fun j hj=>by rw[ary];exact pv r j hj⟩
instance (r:Rt):cg (aA r) 18 (.int .u16 r.cx.toNat):=⟨zL r⟩
instance (r:Rt):cg (aA r) 0 (.int .i64 r.p.bits):=⟨(pv r 0 (by decide)).trans (xF r.p)⟩
instance (r:Rt):cg (aA r) 1 (.int .i64 r.p.len):=⟨(pv r 1 (by decide)).trans (xG r.p)⟩
instance (r:Rt):nk (aA r) 2 16 (bN r.p.key):=⟨fR _,fun j hj=>(pv r (2+j) (by omega)).trans (qS r.p j)⟩
theorem ace(d:Nat):tK Tryz.prog (d+1) 27 false [0]:=⟨⟨_,Tryz.underlying27,rfl⟩,by kernel_rfl,fun _=>rfl,Ky Tryz.underlying27⟩
theorem acf:Tryz.prog.stoodInHeld 34=false:=by kernel_rfl
theorem acg(d:Nat):tK Tryz.prog (d+1+1+1+1) 34 true (([0]++([0]++((List.replicate 16 [0]).flatten++[])))++([0]++[])):=⟨⟨_,Tryz.underlying34,rfl⟩,by kernel_rfl,(fun h=>by cases h),
 R6 Tryz.underlying34 acf ⟨by decide,rfl,_,_,_,rfl,R9 _,by decide,rfl,_,_,_,rfl,ace _,rfl⟩⟩
theorem ach:Tryz.prog.eqGuardType Tryz.prog.depth 34=false:=by kernel_rfl
instance (a b:Rt):zd Tryz.prog 34 (.agg (aA a)) (.agg (aA b)) (decide (a=b)):=
 (acg 9996).eq.val rfl ach (k8 a) (k8 b) (fun i k hk=>by
  have h0:k=0:=by
   have:k∈(([0]++([0]++((List.replicate 16 [0]).flatten++[])))++([0]++[])):=anc hk;simpa using this
  subst h0;have hi:i<19:=(ad2.1 hk).1
  match i,hi with
  |0,_=>exact⟨_,_,(inferInstance:cg (aA a) 0 _).h,(inferInstance:cg (aA b) 0 _).h,rfl⟩
  |1,_=>exact⟨_,_,(inferInstance:cg (aA a) 1 _).h,(inferInstance:cg (aA b) 1 _).h,rfl⟩
  |j+2,hi=>
   rcases aqX j 16 with h|h
   ·
    rw[atS j 2];exact⟨_,_,(pv a _ (by omega)).trans ((qS a.p j).trans (jQ _ j h)),(pv b _ (by omega)).trans ((qS b.p j).trans (jQ _ j h)),rfl⟩
   obtain rfl:j=16:=by omega
   exact⟨_,_,zL a,zL b,rfl⟩) (by rw[decide_eq_true_iff];exact⟨Xv,fun h=>by rw[h]⟩)
instance:p8 Tryz.prog 34 [] (.agg (aA iS)):=⟨fun w=>by unfold aA db iS;rw[wM];kernel_rfl⟩
instance (p:bo)(h:UInt16):p8 Tryz.prog 34 [(0, .agg (db p)),(1, .int .u16 h.toNat)] (.agg (aA ⟨p,h⟩)):=⟨fun w=>by kernel_rfl⟩
instance:eI Tryz.prog 34 (.agg (aA iS)):=⟨by unfold aA db iS;rw[wM];kernel_rfl⟩
end Go.Proofs.YtkggjjnhnjjokaaGreatDoor
namespace Go.Kb
open Go.ax
instance:Plain Rt:=⟨fun _=>rfl⟩
instance:fS Rt:=fS.flat fun _ _=>trivial
structure dr where
 aq:cl
 table:Sl Rt
def dv(x:dr):Array Value:= #[.int .i64 x.aq.ae.pages, .int .i64 x.aq.ae.size,x.aq.ae.blocks.sv.val, .int .i64 x.aq.ae.ops, .bool x.aq.ae.off,x.aq.ae.aU.sv.val,x.aq.at_.sv.val, .int .u64 x.aq.gen.toNat, .int .i64 x.aq.last,x.table.sv.val]
instance:bm dv 10:=⟨fun _=>rfl,fun x=>by
 simp only[dv,asJ,asP,as4,Sv.one,uT,uU,asA]⟩
instance (x:dr):fP (dv x) 10:=⟨rfl,bm.one x⟩
instance (x:dr):cg (dv x) 1 (.int .i64 x.aq.ae.size):=⟨rfl⟩
instance (x:dr):cg (dv x) 6 (x.aq.at_.sv.val):=⟨rfl⟩
instance (x:dr):cg (dv x) 7 (.int .u64 x.aq.gen.toNat):=⟨rfl⟩
instance (x:dr):cg (dv x) 8 (.int .i64 x.aq.last):=⟨rfl⟩
instance (x:dr):cg (dv x) 9 (x.table.sv.val):=⟨rfl⟩
instance (x:dr):nk (dv x) 0 9 (cn x.aq):=⟨rfl,fun j hj=>by
 match j,hj with
 |0,_=>rfl
 |1,_=>rfl
 |2,_=>rfl
 |3,_=>rfl
 |4,_=>rfl
 |5,_=>rfl
 |6,_=>rfl
 |7,_=>rfl
 |8,_=>rfl⟩
instance (x:dr):nk (dv x) 0 6 (aS x.aq.ae):=⟨rfl,fun j hj=>by
 match j,hj with
 |0,_=>rfl
 |1,_=>rfl
 |2,_=>rfl
 |3,_=>rfl
 |4,_=>rfl
 |5,_=>rfl⟩
instance:Deep dr where
 c:=10
 cells:=dv
 size:=bm.size
 one:=bm.one
 cF h x:=Deep.cF h x.aq/\Deep.cF h x.table
 cc x:= .two (Deep.cc x.aq) (Deep.cc x.table)
 jg h x hs:=⟨Deep.jg h x.aq hs.1,Deep.jg h x.table hs.2.1⟩
 mono w w' x hg hb:=⟨Deep.mono w w' x.aq hg.1 hb,Deep.mono w w' x.table hg.2 hb⟩
instance:fS dr where
 reach x k:=fS.reach x.aq k\/fS.reach x.table k
 congr h h' x e hg:=⟨fS.congr h h' x.aq (fun k hk=>e k (.inl hk)) hg.1,fS.congr h h' x.table (fun k hk=>e k (.inr hk)) hg.2⟩
variable {w0:World}{L:List aj}
instance{x:dr}[q:aT w0 L x]:aT w0 L x.aq:=⟨fun w hw=>(q.h w hw).1⟩
instance{x:dr}[q:aT w0 L x]:aT w0 L x.table:=⟨fun w hw=>(q.h w hw).2⟩
instance{aq:cl}{table:Sl Rt}[q0:aT w0 L aq][q1:aT w0 L table]:aT w0 L (dr.mk aq table):=⟨fun w hw=>⟨q0.h w hw,q1.h w hw⟩⟩
def nT:dr:=⟨lV,⟨Sv.none,[]⟩⟩
structure FV where
 aq:VV
 table:List Rt
 deriving DecidableEq
def ck(f:dr):FV:=⟨vv f.aq,f.table.xs⟩
def rp:FV:=⟨lr,[]⟩
def yo(b p s:Int):Int:=min (tH b p/2) (ki s)
def AE(b p s:Int):Int:=jl (yo b p s) (dO s)
def ez(c:CV):Int:=yo c.blocks.length c.pages c.size
def ei(c:CV):Int:=AE c.blocks.length c.pages c.size
def eK(c:CV)(y:Int):List UInt8:=if y -1<0 then[]else iV c y
def cq(v:VV):List (List UInt8):=v.at_.map (eK v.ae)
def dF(c:CV):FV×Int:=
 if ei c=0 then(rp,1)
 else if(bE c).2≠0 then(rp,(bE c).2)
 else if((bE c).1.at_.length:Int)≠ez c then(rp,2)
 else if kP (cq (bE c).1)≠0 then(rp,2)
 else(⟨(bE c).1,jE (cq (bE c).1)⟩,0)
def kS(c:CV):List (List UInt8):=if(dF c).2=0 then cq (bE c).1 else[]
theorem Se{c:CV}(h:ei c=0):dF c=(rp,1)/\kS c=[]:=by
 have e:dF c=(rp,1):=by rw[dF,if_pos h]
 exact⟨e,by rw[kS,e];rfl⟩
theorem Sg{c:CV}(h: ¬ei c=0)(h1:(bE c).2≠0):dF c=(rp,(bE c).2)/\kS c=[]:=by
 have e:dF c=(rp,(bE c).2):=by rw[dF,if_neg h,if_pos h1]
 exact⟨e,by rw[kS,e,if_neg h1]⟩
theorem Sh{c:CV}(h: ¬ei c=0)(h1:(bE c).2=0)(h2:((bE c).1.at_.length:Int)≠ez c):dF c=(rp,2)/\kS c=[]:=by
 have e:dF c=(rp,2):=by rw[dF,if_neg h,if_neg (fun g=>g h1),if_pos h2]
 exact⟨e,by rw[kS,e];rfl⟩
theorem Si{c:CV}(h: ¬ei c=0)(h1:(bE c).2=0)(h2:((bE c).1.at_.length:Int)=ez c)(h3:kP (cq (bE c).1)≠0):dF c=(rp,2)/\kS c=[]:=by
 have e:dF c=(rp,2):=by rw[dF,if_neg h,if_neg (fun g=>g h1),if_neg (fun g=>g h2),if_pos h3]
 exact⟨e,by rw[kS,e];rfl⟩
theorem CL{c:CV}(h: ¬ei c=0)(h1:(bE c).2=0)(h2:((bE c).1.at_.length:Int)=ez c)(h3:kP (cq (bE c).1)=0):dF c=(⟨(bE c).1,jE (cq (bE c).1)⟩,0)/\kS c=cq (bE c).1:=by
 have e:dF c=(⟨(bE c).1,jE (cq (bE c).1)⟩,0):=by rw[dF,if_neg h,if_neg (fun g=>g h1),if_neg (fun g=>g h2),if_neg (fun g=>g h3)]
 exact⟨e,by rw[kS,e,if_pos rfl]⟩
theorem CM{c:CV}(h:(dF c).2=0): ¬ei c=0/\(bE c).2=0/\((bE c).1.at_.length:Int)=ez c/\kP (cq (bE c).1)=0:=by
 by_cases h0:ei c=0
 ·
  rw[(Se h0).1]at h;cases h
 by_cases h1:(bE c).2=0
 ·
  by_cases h2:((bE c).1.at_.length:Int)=ez c
  ·
   by_cases h3:kP (cq (bE c).1)=0
   ·
    exact⟨h0,h1,h2,h3⟩
   rw[(Si h0 h1 h2 h3).1]at h;cases h
  rw[(Sh h0 h1 h2).1]at h;cases h
 rw[(Sg h0 h1).1]at h;exact absurd h h1
def jm(f:FV):Bool:=decide ((dF {f.aq.ae with off:=false}).2=0)&&decide (f.aq.gen=(dF {f.aq.ae with off:=false}).1.aq.gen)&&decide (f.aq.last=(dF {f.aq.ae with off:=false}).1.aq.last)&&decide (f.aq.at_=(dF {f.aq.ae with off:=false}).1.aq.at_)&&decide (f.table=(dF {f.aq.ae with off:=false}).1.table)
theorem Ga{f:FV}:jm f=true↔(dF {f.aq.ae with off:=false}).2=0/\f.aq.gen=(dF {f.aq.ae with off:=false}).1.aq.gen/\f.aq.last=(dF {f.aq.ae with off:=false}).1.aq.last/\f.aq.at_=(dF {f.aq.ae with off:=false}).1.aq.at_/\f.table=(dF {f.aq.ae with off:=false}).1.table:=by
 simp only[jm,alM,decide_eq_true_eq,and_assoc]
theorem aci{f:FV}:jm f=(decide ((dF {f.aq.ae with off:=false}).2=0)&&lY f.aq&&decide ((dF {f.aq.ae with off:=false}).1.table=f.table)):=by
 rw[atx,Ga];simp only[lY,alM,decide_eq_true_eq];constructor
 ·
  rintro⟨h1,h2,h3,h4,h5⟩;obtain⟨g0,g1,g2,g3⟩:=CM h1;rw[(CL g0 g1 g2 g3).1]at h2 h3 h4;exact⟨⟨h1,⟨⟨g1,h2.symm⟩,h3.symm⟩,h4.symm⟩,h5.symm⟩
 rintro⟨⟨h1,⟨⟨g4,h2⟩,h3⟩,h4⟩,h5⟩;obtain⟨g0,g1,g2,g3⟩:=CM h1;rw[(CL g0 g1 g2 g3).1]at h5⊢;exact⟨rfl,h2.symm,h3.symm,h4.symm,h5.symm⟩
theorem Sj{bs:List (List UInt8)}(h:kP bs=0):bJ (jE bs)=true:=by
 unfold kP jE at*
 cases hu:gI bs with
 |none=>rw[hu]at h;cases h
 |some t=>
  rw[hu]at h;simp only at h⊢
  by_cases ht:bJ t=true
  ·
   rw[if_pos ht];exact ht
  rw[if_neg ht]at h;cases h
theorem acj{f:FV}(h:jm f=true):bJ f.table=true:=by
 obtain⟨h1,_,_,_,h5⟩:=Ga.1 h;obtain⟨g0,g1,g2,g3⟩:=CM h1;rw[h5,(CL g0 g1 g2 g3).1];exact Sj g3
def cA(f:FV)(l:List Ch):FV×Int:=
 if jm f=false then(f,1)
 else if dm f.table l≠0 then(f,dm f.table l)
 else if jZ (cf f.table l) (ez f.aq.ae) (dO f.aq.ae.size)≠0 then(f,jZ (cf f.table l) (ez f.aq.ae) (dO f.aq.ae.size))
 else if eW (kS {f.aq.ae with off:=false}) (kO (cf f.table l) (ez f.aq.ae) (dO f.aq.ae.size))=[]then(⟨f.aq,cf f.table l⟩,0)
 else(⟨(fO f.aq (eW (kS {f.aq.ae with off:=false}) (kO (cf f.table l) (ez f.aq.ae) (dO f.aq.ae.size)))).1,if(fO f.aq (eW (kS {f.aq.ae with off:=false}) (kO (cf f.table l) (ez f.aq.ae) (dO f.aq.ae.size)))).2≠0 then f.table else cf f.table l⟩,(fO f.aq (eW (kS {f.aq.ae with off:=false}) (kO (cf f.table l) (ez f.aq.ae) (dO f.aq.ae.size)))).2)
def pK(c:CV):FV×Int:=if ei c=0 then(⟨⟨c,[],0,0⟩,[]⟩,1)else(⟨(oR c (ez c)).1,[]⟩,(oR c (ez c)).2)
theorem CN{w0 w:World}{L:List aj}{a:Sl Rt}(h:Mem w0 (own aA 19 a.sv a.xs::L) w):Mem w0 (fz a::L) w:=Fo (fun _ _ h=>h) (fun _ _=>trivial) h
theorem Gd{w0 w:World}{L:List aj}{f:dr}(h:Mem w0 (fz f.aq.ae::fz f.aq.at_::fz f.table::L) w):Mem w0 (fz f::L) w:=by
 refine Mem.freeze (es:=[fz f.aq.ae,fz f.aq.at_,fz f.table]) f ⟨⟨h.sat (fz f.aq.ae) (by simp),h.sat (fz f.aq.at_) (by simp)⟩,h.sat (fz f.table) (by simp)⟩ (fun k hk=>?_) h;rcases hk with(hk|hk)|hk
 ·
  exact⟨fz f.aq.ae,by simp,hk⟩
 ·
  exact⟨fz f.aq.at_,by simp,hk⟩
 exact⟨fz f.table,by simp,hk⟩
theorem Sk{w0 w:World}{L:List aj}{f:dr}(h:Mem w0 (fz f.aq.ae::own bw 1 f.aq.at_.sv f.aq.at_.xs::own aA 19 f.table.sv f.table.xs::L) w):Mem w0 (fz f::L) w:=by
 have h1:=xU (a:=f.aq.at_) (h.perm (List.Perm.swap _ _ _));have h2:=CN (a:=f.table) (h1.perm ((List.Perm.cons _ (List.Perm.swap _ _ _)).trans (List.Perm.swap _ _ _)));exact Gd (h2.perm ((List.Perm.cons _ (List.Perm.swap _ _ _)).trans ((List.Perm.swap _ _ _).trans (List.Perm.cons _ (List.Perm.swap _ _ _)))))
theorem Gj{w0 w:World}{L:List aj}(h:Mem w0 L w):Mem w0 (fz nT::L) w:=
 Mem.freeze (es:=[]) nT ⟨⟨⟨vU,vU⟩,vU⟩,vU⟩ (fun k hk=>by
  rcases hk with(((⟨bM,_⟩|⟨x,hx,_⟩)|⟨bM,_⟩|⟨x,hx,_⟩)|⟨bM,_⟩|⟨x,hx,_⟩)|⟨bM,_⟩|⟨x,hx,_⟩
  all_goals first|exact absurd rfl bM|cases hx) h
theorem AF{w0 w:World}{L:List aj}:Mem w0 L w->Mem w0 (fz (⟨Sv.none,[]⟩:Sl (Sl UInt8))::L) w:=
 Mem.freeze (es:=[]) _ vU (fun k hk=>by
  rcases hk with⟨bM,_⟩|⟨x,hx,_⟩
  ·
   exact absurd rfl bM
  cases hx)
theorem Sm(s:Int):0<=ki s/\ki s<=64:=by
 rw[ki,dO];split
 ·
  rename_i h;have:=r8.1 h;omega
 omega
theorem KD(c:CV):ez c<=64:=by
 have:=Sm c.size;rw[ez,yo];omega
theorem ack(b p:Int):0<=tH b p/\tH b p<=448:=by
 rw[tH];split
 ·
  omega
 rename_i h;have h1:0<=b -4/\b -4<=28:=by omega
 have h2:1<=p/\p<=16:=by omega
 exact⟨Int.mul_nonneg h1.1 (by omega),Int.le_trans (atU h1.2 h2.2 (by omega) (by omega)) (by decide)⟩
theorem Sn{c:CV}(h:(bE c).2=0):(bE c).1.ae=c:=by
 obtain⟨_,_,e⟩:=JS h;rw[e]
theorem acm{c:CV}(h:(bE c).2=0):c.off=false:=by
 cases ho:c.off with
 |false=>rfl
 |true=>rw[bE,if_neg (by rw[JR h];simp),if_pos ho]at h;cases h
theorem acn{c:CV}(h:(bE c).2=0):lY (bE c).1=true:=by
 have e:{(bE c).1.ae with off:=false}=c:=by rw[Sn h,←acm h]
 simp only[lY,e,h,decide_true,asA]
theorem aco(c:CV)(n:Int):(iV c n).length<=65536:=by
 rw[iV];split
 ·
  exact JN _
 simp
theorem AG(v:VV):(cq v).length=v.at_.length:=by rw[cq,arA]
theorem acp(c:CV)(n:Int):(eK c n).length<=65536:=by
 rw[eK];split
 ·
  simp
 exact aco c n
theorem acq(c:CV):(kS c).length<=64:=by
 rw[kS];split
 ·
  rename_i h;obtain⟨g0,g1,g2,g3⟩:=CM h;have:=KD c;rw[AG];omega
 simp
def eL(f:FV):List (List UInt8):=kS {f.aq.ae with off:=false}
def wN(f:FV)(l:List Ch):Int:=jZ (cf f.table l) (ez f.aq.ae) (dO f.aq.ae.size)
def dz(f:FV)(l:List Ch):List (List UInt8):=kO (cf f.table l) (ez f.aq.ae) (dO f.aq.ae.size)
theorem acr{f:FV}{l:List Ch}(h0:jm f=false):cA f l=(f,1):=by rw[cA,if_pos h0]
theorem Gl(f:FV)(l:List Ch):cA f l=(if jm f=false then(f,1)
 else if dm f.table l≠0 then(f,dm f.table l)
 else if wN f l≠0 then(f,wN f l)
 else if eW (eL f) (dz f l)=[]then(⟨f.aq,cf f.table l⟩,0)
 else(⟨(fO f.aq (eW (eL f) (dz f l))).1,if(fO f.aq (eW (eL f) (dz f l))).2≠0 then f.table else cf f.table l⟩,(fO f.aq (eW (eL f) (dz f l))).2)):=rfl
theorem So{f:FV}{l:List Ch}(h0:jm f=true)(h1:dm f.table l≠0):cA f l=(f,dm f.table l):=by
 rw[Gl,if_neg (by rw[h0];simp),if_pos h1]
theorem Sp{f:FV}{l:List Ch}(h0:jm f=true)(h1:dm f.table l=0)(h2:wN f l≠0):cA f l=(f,wN f l):=by
 rw[Gl,if_neg (by rw[h0];simp),if_neg (fun h=>h h1),if_pos h2]
theorem Sr{f:FV}{l:List Ch}(h0:jm f=true)(h1:dm f.table l=0)(h2:wN f l=0)(h3:eW (eL f) (dz f l)=[]):cA f l=(⟨f.aq,cf f.table l⟩,0):=by
 rw[Gl,if_neg (by rw[h0];simp),if_neg (fun h=>h h1),if_neg (fun h=>h h2),if_pos h3]
theorem Gm{f:FV}{l:List Ch}(h0:jm f=true)(h1:dm f.table l=0)(h2:wN f l=0)(h3: ¬eW (eL f) (dz f l)=[]):cA f l=(⟨(fO f.aq (eW (eL f) (dz f l))).1,if(fO f.aq (eW (eL f) (dz f l))).2≠0 then f.table else cf f.table l⟩,(fO f.aq (eW (eL f) (dz f l))).2):=by
 rw[Gl,if_neg (by rw[h0];simp),if_neg (fun h=>h h1),if_neg (fun h=>h h2),if_neg h3]
def Ss(f:FV):Bool:=aX f.aq.ae&&decide (f.aq.at_.length<=1000000)&&decide (f.table.length<=1000000)
end Go.Kb
namespace Go.ax
open Go.RowKit
theorem KE{P:Program}{fn:Func}{N:ct}{env:Env}{w0:World}{L:List aj}(hf:fn.results= #[]): ∀a w,dh N env a->Mem w0 L w->(results fn a.tmps).run P w= .ok (.tuple #[]) w:=fun a w _ _=>by
 simp[results,hf]
section
variable {P:Program} {w0:World} {env:Env}
theorem St{N:ct}{L:List aj}{d:Option Tmp}{ty:TypeId}{ps:String}{af:Array Edge}{gd:Option (Nat×Bool)}{t:TypeId}{x:Operand}{p:Addr}{v:Value}[ht:fK P t](hx:ev env x=some (.pointer (some p)))(hc:w0.cell? p=some v):Ry P N w0 env L ⟨d, .load t x,ty,ps,af,gd⟩ v:=
 ze ht hx fun w hw=>(hw.below.cell (by
  unfold World.cell? at hc
  cases ho:w0.heap[p.block]?with
  |none=>simp[ho]at hc
  |some o=>exact(asB.1 ho).1)).trans hc
end
section
variable {P:Program} {N:ct} {w0:World} {env:Env} {L:List aj} {l:List Oper} {Q:Exit->Act->World->Prop} {rest:List Oper} {d:Option Tmp} {ty:TypeId} {ps:String} {af:Array Edge} {K:Value->List aj->Prop}
instance cg.one{v:Value}:cg #[v] 0 v:=⟨rfl⟩
theorem acs{t:TypeId}{x:Operand}{v:Value}(hc:v.cells= #[v])(hx:ev env x=some v)(hk: ∀b,Sq P N w0 l Q rest (cB env d (.pointer (some ⟨b,0,none⟩))) (ar b #[v] t::L))(hd:dn N d=true:=by rfl):
  Sq P N w0 l Q (⟨d, .box t x,ty,ps,af,none⟩::rest) env L:=H8 hx (by rw[hc];exact hk) hd
theorem acu{t:TypeId}{z:Value}[hz:eI P t z](hc:z.cells= #[z])(hk: ∀b,Sq P N w0 l Q rest (cB env d (.pointer (some ⟨b,0,none⟩))) (ar b #[z] t::L))(hd:dn N d=true:=by rfl):
  Sq P N w0 l Q (⟨d, .alloc t,ty,ps,af,none⟩::rest) env L:=Nt (z:=z) (by rw[hc];exact hk) hd
theorem acv{t:TypeId}{x y:Operand}{i b:Nat}{u:Value}{T:TypeId}{v:Value}(hv:v.oneCell'=true)(hx:ev env x=some (.pointer (some ⟨b,0,none⟩)))(hy:ev env y=some v)[ht:fK P t][hh:Has L b #[u] T i]{L':List aj}[hu:fu L i (ar b #[v] T) L'](hk:Sq P N w0 l Q rest env L'):
  Sq P N w0 l Q (⟨none, .store t x y,ty,ps,af,none⟩::rest) env L:=eN (cs':= #[v]) hx hy (by show 0<1;decide) hv rfl hk
end
theorem acw{P:Program}{N:ct}{w0:World}{env:Env}{L:List aj}{l:List Oper}{Q:Exit->Act->World->Prop}{rest:List Oper}{ty:TypeId}{ps:String}{af:Array Edge}{t:TypeId}{x y:Operand}{i k p:Nat}{s:Sv}{xs:List UInt8}{a v:UInt8}[ht:fK P t](hx:ev env x=some (.pointer (some ⟨s.b,p,none⟩)))(hy:ev env y=some (.int .u8 v.toNat))[q:fw L s aN 1 xs i](ha:xs[k]? =some a)(fv:p=s.o+k*1){L':List aj}[hu:fu L i (own aN 1 s (xs.set k v)) L'](hk:Sq P N w0 l Q rest env L'):
  Sq P N w0 l Q (⟨none, .store t x y,ty,ps,af,none⟩::rest) env L:=
 kz (j:=0) (n:=1) (a':=v) ht.size hx hy (q:=q) (by omega) ha (by simp[Value.cells,Value.oneCell']) rfl (by omega) (by rfl) hk
variable {w0:World}{L:List aj}
theorem Mem.putObj{w:World}{e e':aj}{l:Nat}{o:Obj}(h:Mem w0 (e::L) w)(uf: ∀k,e'.fp k->e.fp k)(hl:e.fp l)
  (HJ:e'.sat fun k=>(w.putObj l o).heap[k]?):Mem w0 (e'::L) (w.putObj l o):=
 h.change (i:=0) rfl uf (fun k hk=>World.putObj_heap_other (fun wb=>hk (wb▸hl))) World.putObj_size ⟨rfl,rfl,rfl⟩ HJ
section
variable {P:Program} {N:ct} {w0:World} {env:Env} {L:List aj} {Q:Exit->Act->World->Prop}
end
section
variable {P:Program} {n:Nat} {w0:World} {env:Env} {L:List aj} {Q:Exit->Act->World->Prop} {l:List Oper} {k:Nat} {rest:List Oper}
theorem drop_at{α:Type}{l rest:List α}{k:Nat}{o:α}(h:l.drop k=o::rest):l[k]? =some o/\l.drop (k+1)=rest:=by
 constructor
 ·
  have:=congrArg (·[0]?) h;simpa using this
 have:=congrArg (List.drop 1) h;simpa[asS,atS]using this
end
def omap(P:Program)(k:TypeId){α β:Type}(df:α->Value)(eH:β->Value)(b:Nat)(f:α->Option β):aj:=
  ⟨fun i=>i=b,fun h=> ∃(es:Array MapEntry) (clock:Nat) (m:List (α×β)),h b=some (.map es clock)/\es.toList.map (fun e=>(e.key,e.val))=m.map (fun p=>(df p.1,eH p.2))/\
    (∀p∈m,∃l,keyOf P k (df p.1)=some l)/\(m.map Prod.fst).Nodup/\(∀x v,f x=some v↔(x,v)∈m),
   fun h h' e st=>by rw[e b rfl];exact st⟩
class AH(P:Program)(t:TypeId)(k e:outParam TypeId):Prop where
  eU:P.underlying t=some (.map k e)
class CO(P:Program)(k:TypeId):Prop where
  K:Maps.Keyed P k
class CP{α:Type}(df:α->Value):Prop where
  inj: ∀{a b:α},df a=df b->a=b
class wO(P:Program)(L:List aj)(b:Nat){α β:outParam Type}(k:TypeId)(df:outParam (α->Value))(eH:outParam (β->Value))(f:outParam (α->Option β))(i:outParam Nat):Prop where
  h:L[i]? =some (omap P k df eH b f)
instance (priority:=high) wO.here {P:Program}{L:List aj}{b:Nat}{α β:Type}{k:TypeId}{df:α->Value}{eH:β->Value}{f:α->Option β}:wO P (omap P k df eH b f::L) b k df eH f 0:=⟨rfl⟩
instance wO.there{P:Program}{L:List aj}{e:aj}{b:Nat}{α β:Type}{k:TypeId}{df:α->Value}{eH:β->Value}{f:α->Option β}{i:Nat}[q:wO P L b k df eH f i]:wO P (e::L) b k df eH f (i+1):=⟨by simpa using q.h⟩
theorem Su{P:Program}{k:TypeId}{α β:Type}{df:α→Value}{eH:β→Value}{f:α→Option β}[K:CO P k][I:CP df]{es:Array MapEntry}{m:List (α×β)}(h1:es.toList.map (fun e=>(e.key,e.val))=m.map (fun p=>(df p.1,eH p.2)))
    (h2: ∀p∈m,∃l,keyOf P k (df p.1)=some l) (h3: ∀x v,f x=some v↔(x,v)∈m) {x:α} (hx: ∃l,keyOf P k (df x)=some l) (w:World):
    ((Instr.findKey k (df x) es.toList).run P w= .ok none w/\f x=none/\ ∀v,(x,v)∉m)\/ ∃(j:Nat) (v:β),(Instr.findKey k (df x) es.toList).run P w= .ok (some (j,eH v)) w/\m[j]? =some (x,v)/\f x=some v/\(es[j]?).map (·.key)=some (df x):=by
  have lB: ∀j:Nat,(es.toList[j]?).map (fun e=>(e.key,e.val))=(m[j]?).map (fun p=>(df p.1,eH p.2)):=fun j=>by rw[←aq1,←aq1,h1]
  have iG: ∀e∈es.toList,∃l,keyOf P k e.key=some l:=fun e he=>by
    obtain⟨j,hj,rfl⟩:=asq he;have:=lB j;rw[aqR hj]at this
    cases hm:m[j]?with
    |none=>rw[hm]at this;cases this
    |some p=>
     rw[hm]at this;simp only[arE,asu,atY]at this;rw[this.1];exact h2 p (anc hm)
  obtain⟨lx,ve⟩:=hx;rcases K.K.find w ve es.toList iG with⟨hr,hn⟩|⟨j,e,hr,hj,hk⟩
  ·have fX: ∀v,(x,v)∉m:=fun v hv=>by
      obtain⟨j,hj,hje⟩:=asq hv;have:=lB j;rw[aqR hj,hje]at this
      cases he:es.toList[j]?with
      |none=>rw[he]at this;cases this
      |some e=>
       rw[he]at this;simp only[arE,asu,atY]at this;exact hn e (anc he) this.1
   refine .inl ⟨hr,?_,fX⟩
   cases hf:f x with
   |none=>rfl
   |some v=>exact absurd ((h3 x v).1 hf) (fX v)
  ·have:=lB j
   rw[hj]at this
   cases hm:m[j]?with
   |none=>rw[hm]at this;cases this
   |some p=>
    rw[hm]at this;simp only[arE,asu,atY]at this;have hp:p.1=x:=I.inj (this.1.symm.trans hk);refine .inr ⟨j,p.2,by rw[hr,this.2],by rw[hm,←hp],(h3 x p.2).2 (by rw[←hp];exact anc hm),?_⟩;have iP:es[j]? =some e:=by simpa using hj
    rw[iP,arE,hk]
section
variable {P:Program} {N:ct} {w0:World} {env:Env} {L:List aj} {d:Option Tmp} {ty:TypeId} {ps:String} {af:Array Edge} {gd:Option (Nat×Bool)} {α β:Type} {df:α->Value} {eH:β->Value} {f:α->Option β}
theorem run_getObj_map{w:World}{b:Nat}{es:Array MapEntry}{clock:Nat}(h:w.heap[b]? =some (.map es clock)):(getObj b).run P w= .ok (.map es clock) w:=by simp[getObj,Sem.run,h]
theorem run_setObj_map{w:World}{b:Nat}{es:Array MapEntry}{clock:Nat}(o:Obj)(h:w.heap[b]? =some (.map es clock)):(setObj b o).run P w= .ok () (w.putObj b o):=by simp[setObj,Sem.run,h,World.putObj]
theorem KF{t k e:TypeId}{m x:Operand}{b i:Nat}{z:β}{v:α}[ht:AH P t k e][K:CO P k][I:CP df][hz:eI P e (eH z)](hm:ev env m=some (.map (some b)))(hx:ev env x=some (df v))[q:wO P L b k df eH f i](hv: ∃l,keyOf P k (df v)=some l):
    Ry P N w0 env L ⟨d, .lookup t m x true,ty,ps,af,gd⟩ (.tuple #[eH ((f v).getD z), .bool (f v).isSome]):=fun a w ha hw=>by
  obtain⟨es,clock,ml,h0,h1,h2,_,h3⟩:=hw.get q.h;obtain⟨l,hl⟩:=hv;have hc:=K.K.check w es.isEmpty hl;simp only[execOp,ha.ev hm,ha.ev hx,Instr.lookup,Sem.run_bind,run_underlying ht.eU,Result.andThen,run_getObj_map h0,Sem.run_pure,hc];rcases Su (P:=P) (k:=k) h1 h2 h3 ⟨l,hl⟩ w with⟨hr,hf,_⟩|⟨j,u,hr,_,hf,_⟩
  ·simp only[hr,hf,Option.getD_none,D1 w hz,Sem.run_bind,Result.andThen,Sem.run_pure];rfl
  ·simp only[hr,hf,as3,Sem.run_pure];rfl
end
section
variable {P:Program} {N:ct} {w0:World} {env:Env} {L:List aj} {l:List Oper} {Q:Exit->Act->World->Prop} {rest:List Oper} {d:Option Tmp} {ty:TypeId} {ps:String} {af:Array Edge} {α β:Type} {df:α->Value} {eH:β->Value} {f:α->Option β}
theorem Mem.Sw{w:World}(P:Program)(k:TypeId)(df:α->Value)(eH:β->Value)(h:Mem w0 L w):Mem w0 (omap P k df eH w.heap.size (fun _=>none)::L) (w.alloc (.map #[] 0)):=by
  refine h.call (E:=[omap P k df eH w.heap.size (fun _=>none)]) ⟨(Below.refl _ _).alloc (aqY _) _,fun e he=>?_,fun e he j hj=>?_,by simp⟩
  ·obtain rfl:e=omap P k df eH w.heap.size (fun _=>none):=by simpa using he
   exact⟨#[],0,[],Below.DO w _,rfl,by simp,by simp,by simp⟩
  ·obtain rfl:e=omap P k df eH w.heap.size (fun _=>none):=by simpa using he
   have:j=w.heap.size:=hj;subst this;simp
theorem acx{t k e:TypeId}(df:α→Value)(eH:β→Value){r:Operand}{kk:IntKind}{n:Int}[ht:AH P t k e](hr:ev env r=some (.int kk n))(hk: ∀b,Sq P N w0 l Q rest (cB env d (.map (some b))) (omap P k df eH b (fun _=>none)::L))(hd:dn N d=true:=by rfl):
    Sq P N w0 l Q (⟨d, .makeMap t (some r),ty,ps,af,none⟩::rest) env L:=
  oc rfl hd fun a w ha hw=>⟨_,_,_,by
    simp only[execOp,arE,ha.ev hr,Instr.makeMap,Sem.run_bind,run_underlying ht.eU,Result.andThen,Sem.run_pure,asInt,asIntOf,newObj,Sem.run];rfl,hw.Sw P k df eH,hk _⟩
theorem Sx{t k e:TypeId}(df:α→Value)(eH:β→Value)[ht:AH P t k e](hk: ∀b,Sq P N w0 l Q rest (cB env d (.map (some b))) (omap P k df eH b (fun _=>none)::L))(hd:dn N d=true:=by rfl):
    Sq P N w0 l Q (⟨d, .makeMap t none,ty,ps,af,none⟩::rest) env L:=
  oc rfl hd fun a w ha hw=>⟨_,_,_,by
    simp only[execOp,Option.map_none,Instr.makeMap,Sem.run_bind,Result.andThen,Sem.run_pure,newObj,Sem.run];rfl,hw.Sw P k df eH,hk _⟩
theorem acy{t k e:TypeId}{m x y:Operand}{b i:Nat}{v:α}{u:β}[DecidableEq α][ht:AH P t k e][K:CO P k][I:CP df](hm:ev env m=some (.map (some b)))(hx:ev env x=some (df v))(hy:ev env y=some (eH u))[q:wO P L b k df eH f i](hv: ∃l,keyOf P k (df v)=some l)
    {L':List aj} [hu:fu L i (omap P k df eH b (fun z=>if z=v then some u else f z)) L'] {a:Act} {w:World} (ha:dh N env a) (hw:Mem w0 L w):
    ∃w',(execOp a.eval ⟨none, .mapUpdate t m x y,ty,ps,af,none⟩).run P w= .ok .skip w'/\Mem w0 L' w':=by
  obtain⟨es,clock,ml,h0,h1,h2,cy,h3⟩:=hw.get q.h;obtain⟨lk,hl⟩:=hv;have hc:=K.K.check w false hl;have bu:=K.K.stays w hl;have step: ∀o:Obj,(omap P k df eH b (fun z=>if z=v then some u else f z)).sat (fun j=>(w.putObj b o).heap[j]?)->Mem w0 L' (w.putObj b o):=fun o ho=>by
    rw[←hu.h];exact hw.change q.h (fun j hj=>hj) (fun j hj=>World.putObj_heap_other (fun e=>hj e)) World.putObj_size ⟨rfl,rfl,rfl⟩ ho
  have bb:b<w.heap.size:=(asB.1 h0).1;rcases Su (P:=P) (k:=k) h1 h2 h3 ⟨lk,hl⟩ w with⟨hr,hf,fX⟩|⟨j,u0,hr,hj,hf,acz⟩
  ·refine⟨w.putObj b (.map (es.push {key:=df v,val:=eH u,born:=clock}) (clock+1)),?_,step _ ⟨_,_,ml++[(v,u)],World.putObj_heap_same bb,?_,?_,?_,?_⟩⟩
   ·simp only[execOp,ha.ev hm,ha.ev hx,ha.ev hy,Instr.mapUpdate,Sem.run_bind,run_underlying ht.eU,Result.andThen,run_getObj_map h0,hc,hr,run_setObj_map _ h0,Sem.run_pure]
   ·simp[h1]
   ·intro p hp
    rcases aqZ.1 hp with hp|hp
    ·exact h2 p hp
    ·obtain rfl:p=(v,u):=by simpa using hp
     exact⟨lk,hl⟩
   ·rw[art,asz]
    refine⟨cy,by simp,fun x1 oO y1 Gn e1=>?_⟩;obtain rfl:y1=v:=by simpa using Gn
    subst e1;obtain⟨p,hp,rfl⟩:=ar0.1 oO;exact fX p.2 hp
   ·intro x' v'
    show(if x'=v then some u else f x')=some v'↔_
    by_cases e:x'=v
    ·subst e;rw[if_pos rfl]
     constructor
     ·intro h;cases h;simp
     ·intro h
      rcases aqZ.1 h with h|h
      ·exact absurd h (fX v')
      ·simp at h;rw[h]
    ·rw[if_neg e,h3 x' v'];simp[e]
  ·have iO:j<ml.length:=(ad2.1 hj).1
   refine⟨w.putObj b (.map (es.modify j fun e=>{e with key:=df v,val:=eH u}) clock),?_,step _ ⟨_,_,ml.set j (v,u),World.putObj_heap_same bb,?_,?_,?_,?_⟩⟩
   ·simp only[execOp,ha.ev hm,ha.ev hx,ha.ev hy,Instr.mapUpdate,Sem.run_bind,run_underlying ht.eU,Result.andThen,run_getObj_map h0,hc,hr,acz,as3,bu,run_setObj_map _ h0,Sem.run_pure]
   ·refine arS fun n=>?_
    have:=congrArg (·[n]?) h1;simp only[aq1]at this⊢;rw[arD]
    by_cases e:j=n
    ·subst e
     rw[if_pos rfl,if_pos iO];rw[hj]at this
     cases he:es.toList[j]?with
     |none=>rw[he]at this;cases this
     |some e0=>
      have qc:es[j]? =some e0:=by simpa using he
      simp[Array.getElem?_modify,qc]
    ·rw[if_neg e,←this]
     simp[Array.getElem?_modify,e]
   ·intro p hp
    rcases arq hp with hp|rfl
    ·exact h2 p hp
    ·exact⟨lk,hl⟩
   ·rw[atd]
    have:(ml.map Prod.fst)[j]? =some v:=by rw[aq1,hj];rfl
    rw[show(ml.map Prod.fst).set j (v,u).1=ml.map Prod.fst from by
        refine arS fun n=>?_;rw[arD]
        by_cases e:j=n
        ·subst e;rw[if_pos rfl,if_pos (by simpa using iO),this]
        ·rw[if_neg e]]
    exact cy
   ·intro x' v'
    have acA: ∀n p,ml[n]? =some p→p.1=v→n=j:=fun n p hn hp=>by
        have a1:(ml.map Prod.fst)[n]? =some v:=by rw[aq1,hn,arE,hp]
        have a2:(ml.map Prod.fst)[j]? =some v:=by rw[aq1,hj];rfl
        exact(List.getElem?_inj (by simpa using(ad2.1 hn).1) cy).1 (a1.trans a2.symm)
    show(if x'=v then some u else f x')=some v'↔_
    by_cases e:x'=v
    ·subst e;rw[if_pos rfl]
     constructor
     ·intro h;cases h
      exact anc (i:=j) (by rw[arD,if_pos rfl,if_pos iO])
     ·intro h
      obtain⟨n,hn⟩:=ash.1 h;rw[arD]at hn
      by_cases en:j=n
      ·rw[if_pos en,if_pos iO]at hn;simp only[asu,atY,true_and]at hn;rw[hn]
      ·rw[if_neg en]at hn;exact absurd (acA n _ hn rfl).symm en
    ·rw[if_neg e,h3 x' v']
     constructor
     ·intro h
      obtain⟨n,hn⟩:=ash.1 h;refine anc (i:=n) ?_;rw[arD,if_neg,hn];rintro rfl;rw[hj]at hn;simp only[asu,atY]at hn;exact e hn.1.symm
     ·intro h
      rcases arq h with h|h
      ·exact h
      ·simp only[atY]at h;exact absurd h.1 e
theorem KG{t k e:TypeId}{m x y:Operand}{b i:Nat}{v:α}{u:β}[DecidableEq α][ht:AH P t k e][K:CO P k][I:CP df](hm:ev env m=some (.map (some b)))(hx:ev env x=some (df v))(hy:ev env y=some (eH u))[q:wO P L b k df eH f i](hv: ∃l,keyOf P k (df v)=some l)
    {L':List aj} [hu:fu L i (omap P k df eH b (fun z=>if z=v then some u else f z)) L'] (hk:Sq P N w0 l Q rest env L'):
    Sq P N w0 l Q (⟨none, .mapUpdate t m x y,ty,ps,af,none⟩::rest) env L:=
  D7 rfl rfl fun a w ha hw=>by
    obtain⟨w',h1,h2⟩:=acy (t:=t) (k:=k) (e:=e) (ty:=ty) (ps:=ps) (af:=af) hm hx hy hv (L':=L') ha hw;exact⟨w',L',h1,h2,hk⟩
end
open Go.Kb
theorem KH{w0 w:World}{L R:List aj}{e:aj}{i:Nat}(q:L[i]? =some e)(d:L.eraseIdx i=R)(h:Mem w0 L w):Mem w0 (e::R) w:=by
 have:=h.perm (oq q);rwa [d]at this
theorem sB{w0 w:World}{L R1 R2:List aj}{e1 e2:aj}{i j:Nat}(h1:L[i]? =some e1)(d1:L.eraseIdx i=R1)(h2:R1[j]? =some e2)(d2:R1.eraseIdx j=R2)(h:Mem w0 L w):Mem w0 (e1::e2::R2) w:=by
 subst d1;subst d2;exact h.perm ((oq h1).trans ((oq h2).cons _))
theorem acB{p:bo}(h:bj p=true):IntKind.i64.wrap (1*2^min (4 -(p.len -4*((bI p:Nat):Int))).toNat IntKind.i64.bits)=((2^lP p:Nat):Int):=by
 obtain⟨h1,h2⟩:=Ck h;have e:(4 -(p.len -4*((bI p:Nat):Int))).toNat=lP p:=rfl;rw[e];generalize lP p=x at h1
 match x,h1 with
 |0,_=>rfl
 |1,_=>rfl
 |2,_=>rfl
 |3,_=>rfl
 |4,_=>rfl
instance (priority:=low) ai.drop {L L':List aj}{e:aj}[k:ai L L']:ai (e::L) L':=⟨by
 obtain⟨R,hR⟩:=k.h;exact⟨e::R,(hR.cons e).trans as2.symm⟩⟩
section
variable {P:Program} {N:ct} {w0:World} {env:Env} {L:List aj} {Q:Exit->Act->World->Prop} {d:Option Tmp} {ty:TypeId} {ps:String} {af:Array Edge} {gd:Option (Nat×Bool)} {K:Value->List aj->Prop}
theorem Ry.to{o:Oper}{v v':Value}(h:Ry P N w0 env L o v)(e:v=v'):Ry P N w0 env L o v':=e▸h
theorem Gp{f:FuncId}{x:Operand}{lE:Array Value}{xs:List Operand}{ts:Array TypeId}{vs:List Value}{v:Value}[hf:aI P f](hx:ev env x=some (.func (.func f) #[] lE))(hxs:iH env xs=some vs)
  (hc: ∀w,Mem w0 L w->Calls P f (vs++lE.toList).toArray w fun e w'=>e= .returned v/\Mem w [] w'):
  Yl P N w0 env L ⟨d, .call {callee:= .value x,args:=xs.toArray,argTypes:=ts},ty,ps,af,gd⟩ v:=fun a ha w hw=>by
 unfold Oper.quietAt;obtain⟨fn,h1,h2,h3⟩:=hf.fn;have HX: ¬fn.body=none:=fun e=>by simp[e]at h2
 have zg: ¬fn.name= "runtime.NumGoroutine" :=by simpa using h3
 have e:(execOp a.eval ⟨d, .call {callee:= .value x,args:=xs.toArray,argTypes:=ts},ty,ps,af,gd⟩).run P w= .ok (.enter f (vs++lE.toList).toArray) w:=by
  have hm:=ha.iH hxs;simp[execOp,resolve,ha.ev hx,Deferred.ofValue,invoke,callFunc,h1,HX,zg,Result.andThen,←hm]
 rw[e];exact⟨rfl,hc w hw⟩
theorem KI{f:Fn}{xs:List Operand}{vs:List Value}(hx:iH env xs=some vs):Ry P N w0 env L ⟨d, .makeFunc f #[] xs.toArray,ty,ps,af,gd⟩ (.func f #[] vs.toArray):=fun a w ha _=>by
 have hm:=ha.iH hx;simp[execOp,Instr.makeFunc,Result.andThen,←hm]
instance (s:Sv):cg (s8 s) 0 s.val:=⟨rfl⟩
instance (s:Sv):cg s.val.cells 0 s.val:=⟨by rw[Sv.jw];rfl⟩
variable {s:Sv} {xs:List Nd} {a:Nd}
theorem acC{t:TypeId}{x y:Operand}{i k p:Nat}{v:Int}[ht:fK P t](hx:ev env x=some (.pointer (some ⟨s.b,p,none⟩)))(hy:ev env y=some (.int .i64 v))[q:fw L s dw 48 xs i](ha:xs[k]? =some a)(b:Nat)(hb:b<16)(fv:p=s.o+k*48+32+b){L':List aj}[hu:fu L i (own dw 48 s (xs.set k (a.wo b v))) L'](hk:K undef (L')):
  ij P N w0 env L ⟨none, .store t x y,ty,ps,af,none⟩ K:=
 we (j:=32+b) (n:=1) (a':=a.wo b v) ht.size hx hy (q:=q) (by omega) ha (by simp[Value.cells,Value.oneCell']) rfl (by omega) (ZS a hb v) hk
end
end Go.ax
namespace Go.Proofs.YtkggjjnhnjjokaaGreatDoor
open Go.ax Go.Kb Go.RowKit
instance:eI Tryz.prog 97 (.agg (eG Ad)):=⟨by kernel_rfl⟩
instance:eI Tryz.prog 180 (.agg (bV ql)):=⟨by kernel_rfl⟩
instance:eI Tryz.prog 59 (.agg (aS gF)):=⟨by kernel_rfl⟩
instance:eI Tryz.prog 5 (.int .u8 0):=⟨by kernel_rfl⟩
instance:eI Tryz.prog 53 (.slice none 0 0):=⟨by kernel_rfl⟩
variable {w0:World}{L:List aj}
instance am8{b:Int}{n:Int}{s:Int}:cd Tryz.prog 93 w0 L [.int .i64 b, .int .i64 n, .int .i64 s] (.bool (uV b n s)) (True):=⟨fun aG w hw=>by
 refine wi Tryz.func93 rfl Tryz.ntmps93 rfl ?_;refine YQ ?_;refine Gr fun w1 hw=>?_;exact⟨congrArg (fun b=>Ending.returned (Value.bool b)) (rfl),ai.mem hw⟩⟩
instance am9{c:Cp}[hc:aT w0 L c]:cd Tryz.prog 106 w0 L [.agg (aS c)] (.bool (aX (cv c))) (True):=⟨fun aG w hw=>by
 have hc:=hc.h w hw;have kT:cH w c:=⟨hc⟩;have dP:=gU c.blocks.xs;have bF:aX (cv c)=true↔uV c.blocks.xs.length c.pages c.size=true/\0<=c.ops/\c.ops<=cN/\c.aU.xs.length<=64/\ ∀b∈iU c.blocks.xs,qn c.pages c.size b=true:=by rw[fy];simp only[cv,dP]
 have qu:cN=1099511627776:=rfl;refine cC Tryz.func106 rfl Tryz.ntmps106 rfl ?_;refine Gc ?_;refine bY rfl fun b1=>YR ?_;refine Gb (fun h0=>?_) fun h0=>?_
 ·
  have hz:aX (cv c)=false:=by
   cases hk:aX (cv c)with
   |false=>rfl
   |true=>
    have g:=bF.1 hk;rw[g.1]at h0;simp only[asF,false_or]at h0;omega
  refine al ?_;refine Gr fun w1 hw=>?_;exact Ge (hz.symm) hw
 have g0:uV c.blocks.xs.length c.pages c.size=true/\0<=c.ops/\c.ops<=cN/\c.aU.xs.length<=64:=by
  cases hk:uV c.blocks.xs.length c.pages c.size with
  |false=>rw[hk]at h0;simp at h0
  |true=>rw[hk]at h0;simp only[asF,not_false_eq_true,true_and]at h0;exact⟨rfl,by omega,by omega,by omega⟩
 have gs:=lR.1 g0.1;refine aY ?_;refine bT (X:=Nat) (fun zz=>[(35, .int .i64 (zz:Nat)),(1, .pointer (some ⟨b1,0,none⟩)),(33,c.blocks.sv.val),(34, .int .i64 (c.blocks.xs.length:Nat))]) (fun zz=>[ar b1 (aS c) 59]) (fun zz=>zz<=c.blocks.xs.length/\ ∀j b,j<zz->(iU c.blocks.xs)[j]? =Option.some b->qn c.pages c.size b=true) (fun zz=>c.blocks.xs.length -zz) 0 ⟨Nat.zero_le _,fun j b hj=>by first|omega|(simp only[];omega)⟩ sb (fun w hw=>ai.mem hw) ?_;rintro i ⟨bc,aH⟩;refine al ?_;refine Gb (fun h1=>?_) fun h1=>?_
 ·
  refine mo ?_;obtain⟨x,hx⟩:=get_some (xs:=c.blocks.xs) (i:=i) oM;refine ag (ba rfl rfl i rfl oM) (ag (iK rfl i hx rfl) ?_);have ana:Mb x c.blocks:=⟨List.mem_of_getElem? hx⟩;refine bt fun b4=>YS ?_;refine Gb (fun h2=>?_) fun h2=>?_
  ·
   have hz:aX (cv c)=false:=by
    cases hk:aX (cv c)with
    |false=>rfl
    |true=>
     have g:=fc.1 ((bF.1 hk).2.2.2.2 (bv x) (anc (mW hx)));simp only[bv,oA]at g;omega
   refine al ?_;refine Gr fun w1 hw=>?_;exact Ge (hz.symm) hw
  refine aY ?_;refine bT (X:=Nat) (fun zz=>[(70, .int .i64 (zz:Nat)),(1, .pointer (some ⟨b1,0,none⟩)),(33,c.blocks.sv.val),(34, .int .i64 (c.blocks.xs.length:Nat)),(35, .int .i64 (i:Nat)),(68,x.pages.sv.val),(69, .int .i64 (x.pages.xs.length:Nat))]) (fun zz=>[ar b4 (bV x) 180,ar b1 (aS c) 59]) (fun zz=>zz<=x.pages.xs.length/\ ∀k y,k<zz->(bv x).pages[k]? =Option.some y->(y.length:Int)=c.size) (fun zz=>x.pages.xs.length -zz) 0 ⟨Nat.zero_le _,fun k y hk=>by first|omega|(simp only[];omega)⟩ sb (fun w hw=>ai.mem hw) ?_;rintro j ⟨jn,eA⟩;refine al ?_;refine Gb (fun h3=>?_) fun h3=>?_
  ·
   refine mo ?_;obtain⟨y,hy⟩:=get_some (xs:=x.pages.xs) (i:=j) oM;refine ag (ba rfl rfl j rfl oM) (ag (bL (j:=0) rfl j hy rfl (by decide)) ?_);have anb:Mb y _:=⟨List.mem_of_getElem? hy⟩;refine fx ?_;refine Gb (fun h4=>?_) fun h4=>?_
   ·
    have hz:aX (cv c)=false:=by
     cases hk:aX (cv c)with
     |false=>rfl
     |true=>
      have g:=(fc.1 ((bF.1 hk).2.2.2.2 (bv x) (anc (mW hx)))).2.2.2.2.2 y.xs (anc (qm hy));omega
    refine al ?_;refine Gr fun w1 hw=>?_;exact Ge (hz.symm) hw
   refine al ?_;refine Gi ?_;exact bn (x:=(j)) (j+1) ⟨oF,fun k z hk hz=>if e:k=j then(by subst e;rw[show(bv x).pages=aL x.pages.xs from rfl,qm hy]at hz;cases hz;omega)else eA k z oF hz⟩ oF sb (fun w hw=>ai.mem hw)
  have wF:qn c.pages c.size (bv x)=true:=fc.2 ⟨by simp only[bv,oA];omega,by simp only[bv];omega,by simp only[bv];omega,by simp only[bv];omega,by simp only[bv];omega,fun y hy=>by
   obtain⟨k,hk⟩:=arc hy;exact eA k y (by have h:=(ad2.1 hk).1;simp only[bv,oA]at h;omega) hk⟩
  refine al ?_;refine Gi ?_;exact bn (x:=(i)) (i+1) ⟨oF,fun j b hj hb=>if e:j=i then(by subst e;rw[mW hx]at hb;cases hb;exact wF)else aH j b oF hb⟩ oF sb (fun w hw=>ai.mem hw)
 obtain rfl:i=c.blocks.xs.length:=by omega
 have hz:aX (cv c)=true:=bF.2 ⟨g0.1,g0.2.1,g0.2.2.1,g0.2.2.2,fun b hb=>by
  obtain⟨j,hj⟩:=arc hb;exact aH j b (by have:=(ad2.1 hj).1;omega) hj⟩
 refine al ?_;refine Gr fun w1 hw=>?_;exact⟨congrArg (fun b=>Ending.returned (Value.bool b)) (hz.symm),ai.mem hw⟩⟩
theorem acD{xs:List UInt8}{k i:Nat}(h:k+i<xs.length):(xs.take k++(List.replicate i 255++xs.drop (k+i))).set (k+i) 255=xs.take k++(List.replicate (i+1) 255++xs.drop (k+(i+1))):=by
 rw[asL _ _ (by rw[aqT];omega),aqT,atb oM,asi,asL _ _ (by simp),arK,asy,asV h,asf,List.replicate_succ',aq6,aty,ast]
theorem acE(w0 w:World)(L:List aj)(rm:Sv)(k:Nat)(n:Nat)(cap:Nat)(xs:List UInt8)(hw:Mem w0 (own aN 1 rm xs::L) w)(aG:k+n<=xs.length/\n<=1000000):Calls Tryz.prog 94 #[.slice (some ⟨rm.b,rm.o+k,none⟩) n cap] w fun e w'=> ∃zz:Unit,e= .returned (.tuple #[])/\(True)/\Mem w0 (own aN 1 rm (xs.take k++(List.replicate n 255++xs.drop (k+n)))::L) w':=by
 obtain⟨gL,gZ⟩:=aG;refine kf (args:=[_]) Tryz.func94 rfl Tryz.ntmps94 rfl hw ?_;change Cw _ _ _ _ _ [(0, .slice (some ⟨rm.b,rm.o+k,none⟩) n cap)] (own aN 1 rm xs::L);refine ay ?_;refine ag (xx rfl) (ay ?_);refine bT (X:=Nat×List UInt8) (fun zz=>[(5, .int .i64 (zz.1:Nat)),(0, .slice (some ⟨rm.b,rm.o+k,none⟩) n cap),(4, .int .i64 (n:Nat))]) (fun zz=>own aN 1 rm zz.2::L) (fun zz=>zz.1<=n/\zz.2=xs.take k++(List.replicate zz.1 255++xs.drop (k+zz.1))) (fun zz=>n -zz.1) (0,xs) ⟨Nat.zero_le _,by simp⟩ sb (fun w hw=>ai.mem hw) ?_;rintro⟨i,zs⟩ ⟨bc,aH⟩;dsimp only;simp only at bc aH;have qA:zs.length=xs.length:=by rw[aH];simp only[List.length_append,List.length_take,List.length_replicate,List.length_drop];omega
 refine al ?_;refine Gb (fun h0=>?_) fun h0=>?_
 ·
  refine aY ?_;refine ag (Nk (b:=rm.b) (o:=rm.o+k) (len:=n) (cap:=cap) rfl rfl oM oM) ?_;obtain⟨z,hz⟩:=get_some (xs:=zs) (i:=k+i) oM;refine kz (s:=rm) (n:=1) (k:=k+i) (j:=0) (a:=z) (a':=(255:UInt8)) (xs:=zs) (enc:=aN) (c:=1) (v:= .int .u8 255) oK rfl rfl oM hz (by simp[Value.cells,Value.oneCell']) rfl oM (by rfl) (al ?_);refine Gi ?_;exact bn (x:=(i,zs)) (i+1,zs.set (k+i) 255) ⟨oF,by rw[aH];exact acD oF⟩ (by simp only;omega) sb (fun w hw=>ai.mem hw)
 obtain rfl:i=n:=by omega
 refine Gc ?_;refine gP (.inr rfl) (KE rfl) (fun w1 hw=>?_);exact⟨(),rfl,trivial,by rw[←aH];exact ai.mem hw⟩
instance acF{w0:World}{L L2:List aj}{i:Nat}{rm:Sv}{k:Nat}{n:Nat}{cap:Nat}{xs:List UInt8}[q:fw L rm aN 1 xs i][d1:dq L i L2]:bZ Tryz.prog 94 w0 L [.slice (some ⟨rm.b,rm.o+k,none⟩) n cap] (Unit) (fun zz=> .tuple #[]) (fun zz=>own aN 1 rm (xs.take k++(List.replicate n 255++xs.drop (k+n)))::L2) (fun zz=>True) (k+n<=xs.length/\n<=1000000):=⟨fun hp w hw=>acE w0 w L2 rm k n cap xs (KH q.h d1.h hw) hp⟩
instance ane{s:Sv}{ss:List Bk}[hs:di w0 L bV 4 s ss]:bZ Tryz.prog 162 w0 L [s.val] (Sv) (fun zz=>zz.val) (fun zz=>own bV 4 zz ss::L) (fun zz=>True) (ss.length<=1000000):=⟨fun aG w hw=>Gk (fun zz=>[own bV 4 zz ss]) hw (by
 have hs:=hs.h w hw;have yp:Gv w s bV 4 ss:=⟨hs⟩;refine cC Tryz.func162 rfl Tryz.ntmps162 rfl ?_;refine au ?_;refine ag (uz Tryz.underlying56 rfl) (Gc ?_);refine Gb (fun h0=>?_) fun h0=>?_
 ·
  have e0:ss=[]:=arb.1 (by have:=hs.ok.nil h0;have:=hs.len;omega);refine al ?_;refine Gr fun w1 hw=>?_;exact⟨Sv.none,rfl,trivial,by rw[e0];exact(ai.mem hw:Mem w [] _).dH bV 4⟩
 refine Gc ?_;refine vT bV fun b5=>Gs ?_;refine lN (s:=⟨false,b5,0,0,0,none⟩) (enc:=bV) (ys:=ss) rfl rfl (by decide) (fun w hw=>ke (s:=s) Tryz.underlying56 (by decide) ((inferInstance:di _ _ bV 4 s ss).h w hw)) (by simp only[aqS];omega) (by simp only[aqS];omega) fun s7 yq wP=>?_;refine ay ?_;refine Gr fun w1 hw=>?_;exact⟨s7,rfl,trivial,by rw[arJ]at hw;exact ai.mem hw⟩)⟩
instance anf{s:Sv}{ss:List Ft}[hs:di w0 L eG 4 s ss]:bZ Tryz.prog 107 w0 L [s.val] (Sv) (fun zz=>zz.val) (fun zz=>own eG 4 zz ss::L) (fun zz=>True) (ss.length<=1000000):=⟨fun aG w hw=>Gk (fun zz=>[own eG 4 zz ss]) hw (by
 have hs:=hs.h w hw;have yp:Gv w s eG 4 ss:=⟨hs⟩;refine cC Tryz.func107 rfl Tryz.ntmps107 rfl ?_;refine au ?_;refine ag (uz Tryz.underlying57 rfl) (Gc ?_);refine Gb (fun h0=>?_) fun h0=>?_
 ·
  have e0:ss=[]:=arb.1 (by have:=hs.ok.nil h0;have:=hs.len;omega);refine al ?_;refine Gr fun w1 hw=>?_;exact⟨Sv.none,rfl,trivial,by rw[e0];exact(ai.mem hw:Mem w [] _).dH eG 4⟩
 refine Gc ?_;refine vT eG fun b5=>Gs ?_;refine lN (s:=⟨false,b5,0,0,0,none⟩) (enc:=eG) (ys:=ss) rfl rfl (by decide) (fun w hw=>ke (s:=s) Tryz.underlying57 (by decide) ((inferInstance:di _ _ eG 4 s ss).h w hw)) (by simp only[aqS];omega) (by simp only[aqS];omega) fun s7 yq wP=>?_;refine ay ?_;refine Gr fun w1 hw=>?_;exact⟨s7,rfl,trivial,by rw[arJ]at hw;exact ai.mem hw⟩)⟩
instance ang{ps:Sl (Sl UInt8)}[CQ:aT w0 L ps]:bZ Tryz.prog 179 w0 L [ps.sv.val] (Sl (Sl UInt8)) (fun zz=>zz.sv.val) (fun zz=>fm zz::L) (fun zz=>aL zz.xs=aL ps.xs) (P5 (aL ps.xs)):=⟨fun aG w hw=>Gk (fun zz=>[fm zz]) hw (by
 have CQ:=CQ.h w hw;have anh:cH w ps:=⟨CQ⟩;obtain⟨gL,gZ⟩:=aG;have bS:=oA ps.xs;rw[bS]at gL;refine cC Tryz.func179 rfl Tryz.ntmps179 rfl ?_;refine au ?_;refine ag (uz Tryz.underlying178 rfl) (Gc ?_);refine Gb (fun h0=>?_) fun h0=>?_
 ·
  have e0:ps.xs=[]:=arb.1 (by have:=CQ.1.ok.nil h0;have:=CQ.1.len;omega);refine al ?_;refine Gr fun w1 hw=>?_;exact⟨⟨Sv.none,[]⟩,rfl,by rw[e0],aag (Mem.dH (ca (τ:=UInt8)) 1 (ai.mem hw:Mem w [] _))⟩
 refine c6 ?_;refine bT (X:=Nat×Nat) (fun zz=>[(15, .int .i64 (zz.1:Nat)),(3, .int .i64 (zz.2:Nat)),(0,ps.sv.val),(13,ps.sv.val),(14, .int .i64 (ps.xs.length:Nat))]) (fun zz=>[]) (fun zz=>zz.1<=ps.xs.length/\zz.2=((aL ps.xs).take zz.1).flatten.length) (fun zz=>ps.xs.length -zz.1) (0,0) ⟨Nat.zero_le _,by simp⟩ sb (fun w hw=>ai.mem hw) ?_;rintro⟨i,mm⟩ ⟨bc,aH⟩;dsimp only;simp only at bc aH;refine al ?_;refine Gb (fun h1=>?_) fun h1=>?_
 ·
  obtain⟨y,hy⟩:=get_some (xs:=ps.xs) (i:=i) oM;have Sy:Mb y ps:=⟨List.mem_of_getElem? hy⟩;have tL:=Co (qm hy);have iY:=Cq (aL ps.xs) (i+1);refine Gc ?_;refine ag (ba rfl rfl i rfl oM) (ag (bL (j:=0) rfl i hy rfl (by decide)) ?_);have ani:Mb y _:=⟨List.mem_of_getElem? hy⟩;refine rW ?_;refine Gi ?_;exact bn (x:=(i,mm)) (i+1,mm+y.xs.length) ⟨oF,by rw[aH,tL]⟩ (by simp only;omega) sb (fun w hw=>ai.mem hw)
 obtain rfl:i=ps.xs.length:=by omega
 rw[List.take_of_length_le oM]at aH;have hN:mm=(aL ps.xs).flatten.length:=aH;refine ay ?_;refine rJ (enc:=aN) (n:=0) (cap:=mm) 0 rfl rfl rfl rfl rfl oM oM oM fun wQ=>au ?_;refine rJ (enc:=ca (τ:=UInt8)) (n:=ps.xs.length) (cap:=ps.xs.length) (⟨Sv.none,[]⟩:Sl UInt8) rfl rfl rfl rfl rfl oM oM oM fun pL=>aY ?_;refine bT (X:=Nat×Nat×List UInt8×List (Sl UInt8)) (fun zz=>[(31, .int .i64 (zz.1:Nat)),(6,(⟨false,wQ,0,zz.2.1,mm,none⟩:Sv).val),(7,(⟨false,pL,0,ps.xs.length,ps.xs.length,none⟩:Sv).val),(29,ps.sv.val),(30, .int .i64 (ps.xs.length:Nat))]) (fun zz=>[own aN 1 ⟨false,wQ,0,zz.2.1,mm,none⟩ zz.2.2.1,own (ca (τ:=UInt8)) 1 ⟨false,pL,0,ps.xs.length,ps.xs.length,none⟩ zz.2.2.2]) (fun zz=>zz.1<=ps.xs.length/\zz.2.1=zz.2.2.1.length/\zz.2.2.1=((aL ps.xs).take zz.1).flatten/\zz.2.2.2=dx ⟨false,wQ,0,mm,mm,none⟩ 0 ((aL ps.xs).take zz.1)++List.replicate (ps.xs.length -zz.1) (⟨Sv.none,[]⟩:Sl UInt8)) (fun zz=>ps.xs.length -zz.1) (0,0,List.replicate 0 0,List.replicate ps.xs.length (⟨Sv.none,[]⟩:Sl UInt8)) ⟨Nat.zero_le _,rfl,by simp,by simp[dx]⟩ sb (fun w hw=>ai.mem hw) ?_;rintro⟨i,m,r,zs⟩ ⟨bc,aH,bB,cT⟩;dsimp only;simp only at bc aH bB cT;refine al ?_;refine Gb (fun h2=>?_) fun h2=>?_
 ·
  obtain⟨y,hy⟩:=get_some (xs:=ps.xs) (i:=i) oM;have Sy:Mb y ps:=⟨List.mem_of_getElem? hy⟩;have tL:=Co (qm hy);have iY:=Cq (aL ps.xs) (i+1);have wR:r.length+y.xs.length<=mm:=by rw[hN,bB,←tL];exact iY
  have pM:=get_some (xs:=zs) (i:=i) (by rw[cT,af0,Jz,aqT,arK];omega);obtain⟨z,hz⟩:=pM;have qA:i<zs.length:=(ad2.1 hz).1;refine ay ?_;refine ag (ba rfl rfl i rfl oM) (ag (bL (j:=0) rfl i hy rfl (by decide)) ?_);have anj:Mb y _:=⟨List.mem_of_getElem? hy⟩;refine ik ?_;refine aae (s:=⟨false,wQ,0,m,mm,none⟩) (enc:=aN) (xs:=r) (ys:=y.xs) rfl rfl (fun w hw=>ke (s:=y.sv) Tryz.underlying53 (by decide) ((inferInstance:di _ _ aN 1 y.sv y.xs).h w hw)) rfl (by simp only;omega) (by simp only;omega) ?_;refine rW ?_;refine ag (Ry.to (v':=(win (⟨false,wQ,0,mm,mm,none⟩:Sv) r.length (r.length+y.xs.length)).val) (Pm (l:=r.length) (h:=(r++y.xs).length) (m:=(r++y.xs).length) rfl rfl rfl rfl rfl rfl rfl (by simp) (by simp) (by simp)) (by simp[win,Sv.sub,Sv.top])) (ag (ba rfl rfl i rfl oM) (Es (s:=⟨false,pL,0,ps.xs.length,ps.xs.length,none⟩) (xs:=zs) (k:=i) (a:=z) (⟨(win (⟨false,wQ,0,mm,mm,none⟩:Sv) r.length (r.length+y.xs.length)),y.xs⟩:Sl UInt8) oK rfl rfl oM hz (al ?_)));refine Gi ?_;exact bn (x:=(i,m,r,zs)) (i+1,m+y.xs.length,r++y.xs,zs.set i ⟨(win (⟨false,wQ,0,mm,mm,none⟩:Sv) r.length (r.length+y.xs.length)),y.xs⟩) ⟨oF,by rw[af0,aH],by rw[bB,aq0,qm hy];simp,by rw[cT];exact aai (by rw[bS]) bB (qm hy)⟩ (by simp only;omega) sb (fun w hw=>ai.mem hw)
 obtain rfl:i=ps.xs.length:=by omega
 rw[aq5 oM]at bB cT;rw[asy,List.replicate_zero,arL]at cT;refine au ?_;refine Gr fun w1 hw=>?_;exact⟨⟨⟨false,pL,0,ps.xs.length,ps.xs.length,none⟩,zs⟩,rfl,by rw[cT,wq],P4 (rm:=⟨false,wQ,0,mm,mm,none⟩) cT rfl (by rw[show m=mm by rw[aH,bB,hN],bB]at hw;exact ai.mem hw)⟩)⟩
instance ank{c:Cp}[hc:aT w0 L c]:bZ Tryz.prog 105 w0 L [.agg (aS c)] (Cp) (fun zz=> .agg (aS zz)) (fun zz=>own bV 4 zz.blocks.sv zz.blocks.xs::aj.all (zz.blocks.xs.map fun b:Bk=>fm b.pages)::own eG 4 zz.aU.sv zz.aU.xs::L) (fun zz=>cv zz=cv c) (gg c):=⟨fun aG w hw=>Gk (fun zz:Cp=>[own bV 4 zz.blocks.sv zz.blocks.xs,aj.all (zz.blocks.xs.map fun b:Bk=>fm b.pages),own eG 4 zz.aU.sv zz.aU.xs]) hw (by
 have hc:=hc.h w hw;have kT:cH w c:=⟨hc⟩;obtain⟨gL,gZ,kU⟩:=aG;refine cC Tryz.func105 rfl Tryz.ntmps105 rfl ?_;refine Gc ?_;refine bY rfl fun b1=>bt fun b2=>al ?_;refine bg rfl oM fun x6 Sz=>Gs ?_;refine eN (cs':=aS (⟨c.pages,c.size,⟨x6,c.blocks.xs⟩,c.ops,c.off,c.aU⟩:Cp)) rfl rfl (by show 2<6;decide) (by first|rfl|exact Sv.one _) rfl (aY ?_);refine bT (X:=Nat×List Bk) (fun zz=>[(11, .int .i64 (zz.1:Nat)),(1, .pointer (some ⟨b1,0,none⟩)),(2, .pointer (some ⟨b2,0,none⟩)),(10, .int .i64 (c.blocks.xs.length:Nat))]) (fun zz=>[own bV 4 x6 zz.2,aj.all ((zz.2.take zz.1).map fun b:Bk=>fm b.pages),ar b2 (aS gF) 59,ar b1 (aS (⟨c.pages,c.size,⟨x6,zz.2⟩,c.ops,c.off,c.aU⟩:Cp)) 59]) (fun zz=>zz.1<=c.blocks.xs.length/\zz.2.length=c.blocks.xs.length/\iU zz.2=iU c.blocks.xs/\ ∀j,zz.1<=j->zz.2[j]? =c.blocks.xs[j]?) (fun zz=>c.blocks.xs.length -zz.1) (0,c.blocks.xs) ⟨Nat.zero_le _,rfl,rfl,fun _ _=>rfl⟩ sb (fun w hw=>by
  simp only[arz,arZ];exact ai.mem (Mem.xP hw)) ?_
 rintro⟨i,zs⟩ ⟨bc,aH,bB,cT⟩;dsimp only;simp only at bc aH bB cT;refine al ?_;refine Gb (fun h0=>?_) fun h0=>?_
 ·
  obtain⟨z,hz⟩:=get_some (xs:=zs) (i:=i) oM;have wS:Mb z c.blocks:=⟨List.mem_of_getElem? (by rw[←cT i (aqY _)];exact hz)⟩;refine al ?_;refine lj ?_;refine EW (s:=x6) (enc:=bV) (c:=4) (xs:=zs) inferInstance oM fun hn6 hs6 ho6 hl6=>?_;refine jh [9,12,1003,1004,1006,1007,1008,1010,1011] [[],[],[],[],[3],[],[3,4],[3,4,6],[3,4,6,7],[3,4,6,7,8],[3,4,6,7,8,9],[3,4,6,7,8,9,10],[3,4,6,7,8,9,10,11]] [0,1,2,3,4,5,6,7,8,9,10,11,12] [ar b1 (aS (⟨c.pages,c.size,⟨x6,zs⟩,c.ops,c.off,c.aU⟩:Cp)) 59] (fun _ hw=>ai.mem hw) oK oK (an rfl (aP (o':=2) rfl rfl) (an rfl (bW rfl) (an rfl (bl rfl) (lh rfl (aP (o':=2) rfl rfl) (lh rfl (bW rfl) (an rfl (bl rfl) (lh rfl (ba rfl rfl i rfl oM) (lh rfl (aP rfl rfl) (lh rfl (bL (j:=0) rfl i hz rfl (by decide)) (dN rfl (pA rfl (kU z wS.h) fun nU Gt=>⟨fun _ hw=>ai.mem hw,?_⟩)))))))))));refine lh rfl (mn (s:=x6) (i:=i) rfl rfl rfl ho6 oM) (lh rfl (aP rfl rfl) ?_);refine dN rfl (we (n:=1) (k:=i) (j:=0) (a:=z) (a':=({z with pages:=nU}:Bk)) (xs:=zs) (enc:=bV) (c:=4) (v:=nU.sv.val) oK rfl rfl rfl hz (by rw[Sv.jw];simp[Sv.one]) (by rw[Sv.jw];rfl) (by decide) (by rw[Sv.jw];rfl) ⟨fun _ hw=>ai.mem hw,?_⟩)
  refine al ?_;refine Gi ?_;exact bn (x:=(i,zs)) (i+1,zs.set i ({z with pages:=nU}:Bk)) ⟨oF,by rw[aru];exact aH,by rw[xW,←bB,show bv ({z with pages:=nU}:Bk)=bv z from by rw[bv,bv,Gt],←xW,wx hz],fun j hj=>by rw[arj oF];exact cT j oF⟩ (by simp only;omega) sb (fun w hw=>by
   have h1:=Mem.Ag (e:=fm nU) (es:=(zs.take i).map fun b:Bk=>fm b.pages) (ai.mem hw:Mem _ (fm nU::aj.all ((zs.take i).map fun b:Bk=>fm b.pages)::[own bV 4 x6 (zs.set i ({z with pages:=nU}:Bk)),ar b2 (aS gF) 59,ar b1 (aS (⟨c.pages,c.size,⟨x6,zs⟩,c.ops,c.off,c.aU⟩:Cp)) 59]) _)
   rw[aap (z':=({z with pages:=nU}:Bk)) hz]at h1
   exact(ai.mem h1:Mem _ [own bV 4 x6 (zs.set i ({z with pages:=nU}:Bk)),aj.all (((zs.set i ({z with pages:=nU}:Bk)).take (i+1)).map fun b:Bk=>fm b.pages),ar b2 (aS gF) 59,ar b1 (aS (⟨c.pages,c.size,⟨x6,zs⟩,c.ops,c.off,c.aU⟩:Cp)) 59] _))
 obtain rfl:i=zs.length:=by omega
 rw[aq5 (aqY _)]at*;refine ay ?_;refine ag (Ry.to (v':=c.aU.sv.val) (bW rfl) rfl) (bg rfl oM fun AI KJ=>Gs ?_);refine eN (cs':=aS (⟨c.pages,c.size,⟨x6,zs⟩,c.ops,c.off,⟨AI,c.aU.xs⟩⟩:Cp)) rfl rfl (by show 5<6;decide) (by first|rfl|exact Sv.one _) rfl (au ?_);refine Gr fun w1 hw=>?_;exact⟨⟨c.pages,c.size,⟨x6,zs⟩,c.ops,c.off,⟨AI,c.aU.xs⟩⟩,rfl,by simp only[cv,bB],ai.mem hw⟩)⟩
instance anl{c:Cp}{b:Int}[hc:aT w0 L c]:cd Tryz.prog 298 w0 L [.agg (aS c), .int .i64 b] (.bool (gV (cv c) b)) (True):=⟨fun aG w hw=>by
 have hc:=hc.h w hw;have kT:cH w c:=⟨hc⟩;refine cQ Tryz.func298 rfl Tryz.ntmps298 rfl ?_;refine Gc ?_;refine bY rfl fun b2=>Pd ?_;refine Gr fun w1 hw=>?_;exact⟨congrArg (fun b=>Ending.returned (Value.bool b)) ((by simp only[gV,cv,gU])),ai.mem hw⟩⟩
instance anm{c:Cp}[hc:aT w0 L c]:cd Tryz.prog 299 w0 L [.agg (aS c)] (.tuple #[.agg (eG ((bq (cv c)).1)), .bool ((bq (cv c)).2)]) (c.aU.xs.length<=1000000):=⟨fun aG w hw=>by
 have hc:=hc.h w hw;have kT:cH w c:=⟨hc⟩;refine cC Tryz.func299 rfl Tryz.ntmps299 rfl ?_;refine Gc ?_;refine bY rfl fun b1=>bt fun b2=>c6 ?_;refine bT (X:=Nat) (fun zz=>[(9, .int .i64 (zz:Nat)),(1, .pointer (some ⟨b1,0,none⟩)),(2, .pointer (some ⟨b2,0,none⟩)),(7,c.aU.sv.val),(8, .int .i64 (c.aU.xs.length:Nat))]) (fun zz=>[ar b2 (eG Ad) 97,ar b1 (aS c) 59]) (fun zz=>zz<=c.aU.xs.length/\ ∀j f,j<zz->c.aU.xs[j]? =Option.some f->f.op≠c.ops) (fun zz=>c.aU.xs.length -zz) 0 ⟨Nat.zero_le _,fun j f hj=>by first|omega|(simp only[];omega)⟩ sb (fun w hw=>ai.mem hw) ?_;rintro i ⟨bc,aH⟩;refine al ?_;refine Gb (fun h0=>?_) fun h0=>?_
 ·
  refine mo ?_;obtain⟨f,hf⟩:=get_some (xs:=c.aU.xs) (i:=i) oM;refine ag (ba rfl rfl i rfl oM) (ag (iK rfl i hf rfl) (bt fun b5=>fx ?_));refine Gb (fun h1=>?_) fun h1=>?_
  ·
   have hs:bq (cv c)=(f,f.cut||f.fail):=aar hf aH h1;refine Gi ?_;refine jh [7] [[],[],[],[],[],[],[],[],[7]] [0,1,2,3,4,5,6,7,8] [ar b5 (eG f) 97,ar b1 (aS c) 59] (fun _ hw=>ai.mem hw) oK oK (an rfl (jO rfl) (an rfl (aP (o':=2) rfl rfl) (an rfl (bW rfl) (an rfl (bl rfl) (O9 rfl rfl rfl rfl (fun hg=>(Ry.yl (aP (o':=1) rfl rfl))) (O9 rfl rfl rfl rfl (fun hg=>(Ry.yl (bW (aE hg rfl)))) (an rfl (zb rfl rfl rfl) (dN rfl (qX rfl rfl ⟨fun _ hw=>ai.mem hw,?_⟩)))))))));refine an rfl (ie rfl) (Gc ?_);refine Gr fun w1 hw=>?_;exact⟨(by rw[hs]),ai.mem hw⟩
  refine al ?_;refine Gi ?_;exact bn (x:=(i)) (i+1) ⟨oF,fun j g hj hg=>if e:j=i then(by subst e;rw[hf]at hg;cases hg;exact h1)else aH j g oF hg⟩ oF sb (fun w hw=>ai.mem hw)
 obtain rfl:i=c.aU.xs.length:=by omega
 have hs:bq (cv c)=(Ad,false):=aaq (fun f hf=>by
  obtain⟨j,hj⟩:=arc hf;exact aH j f (ad2.1 hj).1 hj)
 refine Gc ?_;refine ag (da (v:= .agg (eG Ad)) rfl (fun w=>by kernel_rfl)) (al ?_);refine Gr fun w1 hw=>?_;exact⟨(by rw[hs]),ai.mem hw⟩⟩
instance ann{f:Ft}:cd Tryz.prog 300 w0 L [.agg (eG f)] (.tuple #[.bool f.cut, .int .i64 (lS f)]) (True):=⟨fun aG w hw=>by
 refine cC Tryz.func300 rfl Tryz.ntmps300 rfl ?_;refine Gc ?_;refine bY rfl fun b1=>aY ?_;refine Gb (fun h0=>?_) fun h0=>?_
 ·
  refine au ?_;refine Gr fun w1 hw=>?_;exact⟨(by rw[lS,if_pos h0,h0]),ai.mem hw⟩
 refine au ?_;refine Gr fun w1 hw=>?_;exact⟨(by rw[lS,if_neg (by rw[h0];simp),h0]),ai.mem hw⟩⟩
instance ano{c:Cp}{b:Int}[hc:aT w0 L c]:bZ Tryz.prog 301 w0 L [.agg (aS c), .int .i64 b] (Cp) (fun zz=> .tuple #[.agg (aS zz), .int .i64 (pG (cv c) b)]) (fun zz=>fz zz::L) (fun zz=>cv zz=lT (cv c) b) (gg c):=⟨fun aG w hw=>Gk (fun zz=>[fz zz]) hw (by
 have hc:=hc.h w hw;have kT:cH w c:=⟨hc⟩;have lF:gg c:=aG;obtain⟨gL,gZ,kU⟩:=aG;refine cQ Tryz.func301 rfl Tryz.ntmps301 rfl ?_;refine Gc ?_;refine bY rfl fun b2=>bt fun b4=>al ?_;refine bg rfl (by assumption) fun x8 rr=>bt fun b6=>c6 ?_;refine Gb (fun h0=>?_) fun h0=>?_
 ·
  have hE:pG (cv c) b=1:=by rw[pG,if_neg (by rw[h0];simp)]
  refine aO ?_;refine Gr fun w1 hw=>?_;exact⟨x8,by rw[hE],by rw[rr,lT,if_neg (by rw[hE];decide)],oG x8 (ai.mem hw)⟩
 have hk:gV (cv c) b=true:=h0;have hh:=hk;have Gu:=(gW.1 hh).2;have dP:x8.blocks.xs.length=c.blocks.xs.length:=by have:=congrArg (fun v:CV=>v.blocks.length) rr;simpa only[cv,gU]using this
 have AJ:x8.ops=c.ops:=congrArg CV.ops rr;have oT:(cv c).blocks.length=c.blocks.xs.length:=gU _;obtain⟨B,hB⟩:=get_some (xs:=x8.blocks.xs) (i:=b.toNat) oM;have nV:b.toNat<x8.blocks.xs.length:=(ad2.1 hB).1;have eX:bv B=ak (cv c) b:=by
  have h1:=Fq hh;have h2:=mW hB;rw[show iU x8.blocks.xs=(cv c).blocks from congrArg CV.blocks rr,h1]at h2;exact(aqP h2).symm
 have gm:qn c.pages c.size (bv B)=true:=by rw[eX];exact qo hh
 obtain⟨o1,o2,o3,o4,o5,o6⟩:=fc.1 gm;have iB:=lR.1 (fy.1 (gW.1 hh).1).1;have CR:=(fy.1 (gW.1 hh).1).2.1;simp only[bv,cv]at o1 o2 o3 o4 o5 o6 iB CR;have SA:=oA B.pages.xs;refine au ?_;refine Gb (fun h1=>?_) fun h1=>?_
 ·
  have hE:pG (cv c) b=7:=by rw[pG,if_pos hk,if_pos (show(cv c).off=true from h1)]
  refine aO ?_;refine Gr fun w1 hw=>?_;exact⟨x8,by rw[hE],by rw[rr,lT,if_neg (by rw[hE];decide)],oG x8 (ai.mem hw)⟩
 have hE:pG (cv c) b=0:=by rw[pG,if_pos hk,if_neg (by rw[show(cv c).off=false from h1];simp)]
 refine au ?_;refine ag (ba rfl rfl b.toNat oM nV) (ag (aP rfl rfl) (kz (s:=x8.blocks.sv) (n:=1) (k:=b.toNat) (j:=3) (a:=B) (a':=(⟨B.pages,B.used,B.aR,true⟩:Bk)) (xs:=x8.blocks.xs) (enc:=bV) (c:=4) (v:= .bool true) oK rfl rfl rfl hB (by simp[Value.cells,Value.oneCell']) (by rfl) (by decide) (by rfl) (aO ?_)));refine Gr fun w1 hw=>?_;exact⟨(⟨x8.pages,x8.size,⟨x8.blocks.sv,x8.blocks.xs.set b.toNat (⟨B.pages,B.used,B.aR,true⟩:Bk)⟩,x8.ops,x8.off,x8.aU⟩:Cp),by rw[hE];rfl,by rw[aay rr eX,lT,if_pos hE],oG (⟨x8.pages,x8.size,⟨x8.blocks.sv,x8.blocks.xs.set b.toNat (⟨B.pages,B.used,B.aR,true⟩:Bk)⟩,x8.ops,x8.off,x8.aU⟩:Cp) (by
  simp only[aax hB (B':=(⟨B.pages,B.used,B.aR,true⟩:Bk)) rfl];exact ai.mem hw)⟩)⟩
instance anp{c:Cp}{fs:Sv}{sC:List Ft}[hc:aT w0 L c][KK:di w0 L eG 4 fs sC]:bZ Tryz.prog 42 w0 L [.agg (aS c),fs.val] (Cp) (fun zz=> .tuple #[.agg (aS zz), .int .i64 (wu (cv c) sC)]) (fun zz=>fz zz::L) (fun zz=>cv zz=Cn (cv c) sC) (gg c):=⟨fun aG w hw=>Gk (fun zz=>[fz zz]) hw (by
 have hc:=hc.h w hw;have KK:=KK.h w hw;have kT:cH w c:=⟨hc⟩;have anq:Gv w fs eG 4 sC:=⟨KK⟩;have lF:gg c:=aG;obtain⟨gL,gZ,kU⟩:=aG;refine cQ Tryz.func42 rfl Tryz.ntmps42 rfl ?_;refine Gc ?_;refine bY rfl fun b2=>bt fun b4=>al ?_;refine bg rfl (by assumption) fun x8 rr=>bt fun b6=>pB ?_;refine Gb (fun h0=>?_) fun h0=>?_
 ·
  have hE:wu (cv c) sC=1:=by rw[wu,if_neg (fun h=>by rw[h.1]at h0;simp only[asF,false_or]at h0;omega)]
  refine aO ?_;refine Gr fun w1 hw=>?_;exact⟨x8,by rw[hE],by rw[rr,Cn,if_neg (by rw[hE];decide)],oG x8 (ai.mem hw)⟩
 have hE:wu (cv c) sC=0:=by
  rw[wu,if_pos]
  cases hk:aX (cv c)with
  |false=>rw[hk]at h0;simp at h0
  |true=>exact⟨rfl,by rw[hk]at h0;simp only[asF,not_false_eq_true,true_and]at h0;omega⟩
 have eO:sC.length<=64:=by
  by_cases h9:aX (cv c)=true/\sC.length<=64
  ·
   exact h9.2
  rw[wu,if_neg h9]at hE;cases hE
 refine ay ?_;refine eN (cs':=aS (⟨x8.pages,x8.size,x8.blocks,x8.ops,false,x8.aU⟩:Cp)) rfl rfl (by show 4<6;decide) (by first|rfl|exact Sv.one _) rfl (ay ?_);refine bg rfl oM fun ib yr=>Gs ?_;refine eN (cs':=aS (⟨x8.pages,x8.size,x8.blocks,x8.ops,false,⟨ib,sC⟩⟩:Cp)) rfl rfl (by show 5<6;decide) (by first|rfl|exact Sv.one _) rfl (aO ?_);refine Gr fun w1 hw=>?_;exact⟨(⟨x8.pages,x8.size,x8.blocks,x8.ops,false,⟨ib,sC⟩⟩:Cp),by rw[hE],by rw[Cn,if_pos hE,←rr];rfl,oG (⟨x8.pages,x8.size,x8.blocks,x8.ops,false,⟨ib,sC⟩⟩:Cp) (ai.mem hw)⟩)⟩
instance anr{b:Sv}{bs:List UInt8}[hb:di w0 L aN 1 b bs]:cd Tryz.prog 269 w0 L [.int .u32 0,b.val] (.int .u32 (nH bs:Nat)) (True):=⟨fun aG w hw=>by
 have hb:=hb.h w hw;have yt:Gv w b aN 1 bs:=⟨hb⟩;have jz:=hb.bd;refine cQ Tryz.func269 rfl Tryz.ntmps269 rfl ?_;refine au ?_;refine ag (Qn (p:=0) rfl rfl (by decide)) (aY ?_);refine bT (X:=Nat) (fun zz=>[(13, .int .i64 (zz:Nat)),(5, .int .u32 (kF 4294967295 (bs.take zz):Nat)),(11,b.val),(12, .int .i64 (bs.length:Nat))]) (fun zz=>[]) (fun zz=>zz<=bs.length) (fun zz=>bs.length -zz) 0 (arn _) sb (fun w hw=>ai.mem hw) ?_;rintro i hi;have bb:kF 4294967295 (bs.take i)<2^32:=EZ (by decide) _;refine al ?_;refine Gb (fun h0=>?_) fun h0=>?_
 ·
  obtain⟨y,he⟩:=get_some (xs:=bs) (i:=i) oM;have hy:=y.toNat_lt;have eE:kF 4294967295 (bs.take i)^^^y.toNat<2^32:=atM (EZ (by decide) _) oM;refine Gc ?_;refine ag (ba rfl rfl i rfl oM) (ag (bL (j:=0) rfl i he rfl (by decide)) (au ?_));refine ag (kZ rfl (by simp only[nb];omega)) (ag (Nq rfl rfl rfl rfl (by simp only[nb];omega) (by simp only[nb];omega)) (au ?_));refine bT (X:=Nat) (fun zz=>[(21, .int .i64 (zz:Nat)),(5, .int .u32 ((oy (kF 4294967295 (bs.take i)^^^y.toNat) zz):Nat)),(11,b.val),(12, .int .i64 (bs.length:Nat)),(13, .int .i64 (i:Nat))]) (fun zz=>[]) (fun zz=>zz<=8) (fun zz=>8 -zz) 0 (arn _) sb (fun w hw=>ai.mem hw) ?_;rintro k hk;refine al ?_;refine Gb (fun h1=>?_) fun h1=>?_
  ·
   have nG:(oy (kF 4294967295 (bs.take i)^^^y.toNat) k)<2^32:=Jl eE k;have KL:(oy (kF 4294967295 (bs.take i)^^^y.toNat) k)/2<2^32:=by omega
   refine ay ?_;refine ag (Ry.to (v':= .int .u32 (((oy (kF 4294967295 (bs.take i)^^^y.toNat) k)%2:Nat):Int)) (H2 (p:=(oy (kF 4294967295 (bs.take i)^^^y.toNat) k)) (q:=1) rfl rfl rfl rfl (by simp only[nb];omega) (by decide)) (by rw[Nat.and_one_is_mod])) (al ?_);refine ag (um (p:=(oy (kF 4294967295 (bs.take i)^^^y.toNat) k)) rfl rfl (by simp only[nb];omega) oM) (au ?_);refine ag (WR (p:=3988292384) (q:=(oy (kF 4294967295 (bs.take i)^^^y.toNat) k)%2) rfl rfl rfl rfl (by simp only[nb];omega)) ?_;refine ag (Ry.to (v':= .int .u32 ((oy (kF 4294967295 (bs.take i)^^^y.toNat) (k+1):Nat):Int)) (Nq (p:=(oy (kF 4294967295 (bs.take i)^^^y.toNat) k)/2^1) (q:=3988292384*((oy (kF 4294967295 (bs.take i)^^^y.toNat) k)%2)) rfl rfl rfl rfl (by simp only[nb];omega) (by simp only[nb];omega)) (by rw[oy,Jk];rcases Nat.mod_two_eq_zero_or_one (oy (kF 4294967295 (bs.take i)^^^y.toNat) k)with h|h<;>rw[h]<;>rfl)) ?_;refine au ?_;refine Gi ?_;exact bn (x:=(k)) (k+1) oF oF sb (fun w hw=>ai.mem hw)
  obtain rfl:k=8:=by omega
  refine al ?_;refine Gi ?_;exact bn (x:=(i)) (i+1) oF oF (Sub.cons rfl (Sub.cons (look_eq rfl (by rw[Zc he];rfl)) sb)) (fun w hw=>ai.mem hw)
 obtain rfl:i=bs.length:=by omega
 refine ay ?_;refine ag (Qn (p:=kF 4294967295 (bs.take bs.length)) rfl rfl (EZ (by decide) _)) (ay ?_);refine Gr fun w1 hw=>?_;exact⟨(by rw[ark];rfl),ai.mem hw⟩⟩
instance ans{b:Sv}{bs:List UInt8}[hb:di w0 L aN 1 b bs]:cd Tryz.prog 229 w0 L [b.val] (.int .u32 (nH bs:Nat)) (True):=⟨fun aG w hw=>by
 have hb:=hb.h w hw;have yt:Gv w b aN 1 bs:=⟨hb⟩;refine cC Tryz.func229 rfl Tryz.ntmps229 rfl ?_;refine c6 ?_;refine Gr fun w1 hw=>?_;exact⟨rfl,ai.mem hw⟩⟩
instance ant{n:Nat}{many:Nat}:bZ Tryz.prog 112 w0 L [.int .u64 (n:Nat), .int .i64 (many:Nat)] (Sv) (fun zz=>zz.val) (fun zz=>own aN 1 zz (be n many)::L) (fun zz=>True) (n<2^64/\1<=many/\many<=8):=⟨fun aG w hw=>Gk (fun zz=>[own aN 1 zz (be n many)]) hw (by
 obtain⟨gL,gZ,kU⟩:=aG;refine cQ Tryz.func112 rfl Tryz.ntmps112 rfl ?_;refine rW ?_;refine Gb (fun h0=>?_) fun h0=>?_
 ·
  exfalso;omega
 refine ay ?_;refine rJ (enc:=aN) (n:=many) (cap:=many) 0 rfl rfl rfl rfl rfl oM oM oM fun yu=>al ?_;refine ag (Ry.to (v':= .int .i64 (many:Nat)) (uy rfl) (by simp)) (ay ?_);refine bT (X:=Nat) (fun zz=>[(17, .int .i64 (zz:Nat)),(5,(⟨false,yu,0,many,many,none⟩:Sv).val),(0, .int .u64 (n:Nat)),(1, .int .i64 (many:Nat)),(16, .int .i64 (many:Nat))]) (fun zz=>[own aN 1 ⟨false,yu,0,many,many,none⟩ (List.replicate (many -zz) (0:UInt8)++be n zz)]) (fun zz=>zz<=many) (fun zz=>many -zz) 0 (arn _) sb (fun w hw=>by rw[show List.replicate (many -0) (0:UInt8)++be n 0=List.replicate many 0 from by rw[be,arL,Nat.sub_zero]];exact ai.mem hw) ?_;rintro i hi;have dP:=jv n i;have Fv:(List.replicate (many -i) (0:UInt8)++be n i).length=many:=by rw[af0,arK,dP];omega
 refine al ?_;refine Gb (fun h1=>?_) fun h1=>?_
 ·
  refine pB ?_;refine ag (rG rfl rfl oM) (ag (Ry.to (v':= .int .u64 ((n/256^i:Nat):Int)) (um (p:=n) rfl rfl (by simp only[nb];omega) oM) (by rw[show(8*(i:Int)).toNat=8*i by omega,Nat.pow_mul])) (ag (BN rfl rfl) (ag (ba rfl rfl (many -1 -i) oM oM) ?_)));refine acw rfl rfl (by rw[aq4 (by rw[arK];omega),atq,if_pos oM]) rfl ?_;refine al ?_;refine Gi ?_;exact bn (x:=(i)) (i+1) oF oF sb (fun w hw=>by rw[aaC oM]at hw;exact ai.mem hw)
 have him:i=many:=by omega
 refine au ?_;refine Gr fun w1 hw=>?_;exact⟨⟨false,yu,0,many,many,none⟩,rfl,trivial,by rw[him,asy,List.replicate_zero,arJ]at hw;exact ai.mem hw⟩)⟩
instance anu{b:Sv}{bs:List UInt8}[hb:di w0 L aN 1 b bs]:cd Tryz.prog 113 w0 L [b.val] (.int .u64 (de bs:Nat)) (bs.length<=7):=⟨fun aG w hw=>by
 have hb:=hb.h w hw;have yt:Gv w b aN 1 bs:=⟨hb⟩;refine cC Tryz.func113 rfl Tryz.ntmps113 rfl ?_;refine ik ?_;refine bT (X:=Nat) (fun zz=>[(8, .int .i64 (zz:Nat)),(3, .int .u64 (de (bs.take zz):Nat)),(6,b.val),(7, .int .i64 (bs.length:Nat))]) (fun zz=>[]) (fun zz=>zz<=bs.length) (fun zz=>bs.length -zz) 0 (arn _) sb (fun w hw=>ai.mem hw) ?_;rintro i hi;refine al ?_;refine Gb (fun h0=>?_) fun h0=>?_
 ·
  obtain⟨y,he⟩:=get_some (xs:=bs) (i:=i) oM;have hy:=y.toNat_lt;have bb:de (bs.take i)<256^6:=arM (Ip bs i hi) (ar2 (by decide) oM);refine Gc ?_;refine ag (ba rfl rfl i rfl oM) (ag (bL (j:=0) rfl i he rfl (by decide)) (al ?_));refine ag (aaB (p:=de (bs.take i)) rfl rfl rfl oM) (Gs ?_);refine ag (kZ rfl (by simp only[nb];omega)) (ag (BE (p:=de (bs.take i)*256) (q:=y.toNat) rfl rfl rfl rfl (by simp only[nb];omega) (by simp only[nb];omega)) (au ?_));refine Gi ?_;exact bn (x:=(i)) (i+1) oF oF (Sub.cons rfl (Sub.cons (look_eq rfl (by rw[NM he,NN _ _ hy])) sb)) (fun w hw=>ai.mem hw)
 obtain rfl:i=bs.length:=by omega
 refine au ?_;refine Gr fun w1 hw=>?_;exact⟨(by rw[ark]),ai.mem hw⟩⟩
instance anv{n:Nat}:bZ Tryz.prog 185 w0 L [.slice none 0 0, .int .i64 (n:Nat)] (Sv) (fun zz=>zz.val) (fun zz=>own aN 1 zz ([]:List UInt8)::L) (fun zz=>True) (n<=1000000000):=⟨fun aG w hw=>Gk (fun zz=>[own aN 1 zz ([]:List UInt8)]) hw (by
 refine cQ Tryz.func185 rfl Tryz.ntmps185 rfl ?_;refine aY ?_;refine Gb (fun h0=>?_) fun h0=>?_
 ·
  exfalso;omega
 refine al ?_;refine ag (E3 rfl) (Gs ?_);refine ag (xx rfl) (c6 ?_);refine Gb (fun h1=>?_) fun h1=>?_
 ·
  refine Gi ?_;refine ay ?_;refine ag (E3 rfl) (ag (Ry.to (v':= .slice none 0 0) (vP (s:=Sv.none) (h:=0) rfl rfl rfl Sv.BI (aqY _)) rfl) (Gs ?_));refine Pr (enc:=aN) (k:=n) (0:UInt8) rfl rfl oM oM (by decide) rfl Tryz.underlying3 oM oM fun AK CS KM=>Gs ?_;refine ag (xx rfl) (ag (vP (s:=⟨false,AK,0,n,CS,none⟩) (h:=0) rfl rfl rfl ⟨(fun h=>by cases h),KM,by simp only;omega,fun _=>rfl⟩ (arn _)) (aO ?_));refine Gr fun w1 hw=>?_;refine⟨Sv.sub ⟨false,AK,0,n,CS,none⟩ 1 0 0,rfl,trivial,?_⟩;have ff:=Mem.Pq (i:=0) (k:=0) hw rfl (arn _);rw[arz]at ff;exact ff
 have hn:n=0:=by omega
 refine au ?_;refine Gr fun w1 hw=>?_;exact⟨Sv.none,rfl,trivial,(ai.mem hw:Mem w [] _).dH aN 1⟩)⟩
instance anw{a:Sl (Sl UInt8)}[ha:aT w0 L a]:bZ Tryz.prog 111 w0 L [a.sv.val] (Sv) (fun zz=>zz.val) (fun zz=>own aN 1 zz (kG a.xs)::L) (fun zz=>True) ((kG a.xs).length<=1000000):=⟨fun aG w hw=>Gk (fun zz=>[own aN 1 zz (kG a.xs)]) hw (by
 have ha:=ha.h w hw;have KN:cH w a:=⟨ha⟩;have ue:=ha.1.bd;have eO:=Zg a.xs;refine cC Tryz.func111 rfl Tryz.ntmps111 rfl ?_;refine ik ?_;refine bT (X:=Nat) (fun zz=>[(11, .int .i64 (zz:Nat)),(3, .int .i64 ((kG (a.xs.take zz)).length:Nat)),(0,a.sv.val),(9,a.sv.val),(10, .int .i64 (a.xs.length:Nat))]) (fun zz=>[]) (fun zz=>zz<=a.xs.length) (fun zz=>a.xs.length -zz) 0 (arn _) sb (fun w hw=>ai.mem hw) ?_;rintro i hi;have wg:=eO i;have lg:=eO (i+1);refine al ?_;refine Gb (fun h0=>?_) fun h0=>?_
 ·
  refine mo ?_;obtain⟨x,hx⟩:=get_some (xs:=a.xs) (i:=i) oM;refine ag (ba rfl rfl i rfl oM) (ag (bL (j:=0) rfl i hx rfl (by decide)) ?_);have hfx:(kG (a.xs.take (i+1))).length=(kG (a.xs.take i)).length+x.xs.length:=by rw[E4 hx,af0]
  have Gw:Mb x _:=⟨List.mem_of_getElem? hx⟩;refine pB ?_;refine Gb (fun h1=>?_) fun h1=>?_
  ·
   exfalso;omega
  refine al ?_;refine Gi ?_;exact bn (x:=(i)) (i+1) oF oF (Sub.cons rfl (Sub.cons (look_eq rfl (by rw[E4 hx,af0];simp)) sb)) (fun w hw=>ai.mem hw)
 obtain rfl:i=a.xs.length:=by omega
 have nt:=eO a.xs.length;refine ay ?_;refine bg rfl oM fun wT KO=>aY ?_;refine bT (X:=Nat×Sv) (fun zz=>[(27, .int .i64 (zz.1:Nat)),(6,zz.2.val),(25,a.sv.val),(26, .int .i64 (a.xs.length:Nat))]) (fun zz=>[own aN 1 zz.2 (kG (a.xs.take zz.1))]) (fun zz=>zz.1<=a.xs.length) (fun zz=>a.xs.length -zz.1) (0,wT) (Nat.zero_le _) sb (fun w hw=>(ai.mem hw:Mem _ [own aN 1 wT ([]:List UInt8)] _)) ?_;rintro⟨k,s1⟩ hk;dsimp only;simp only at hk;have wg:=eO k;have lg:=eO (k+1);refine al ?_;refine Gb (fun h2=>?_) fun h2=>?_
 ·
  refine mo ?_;obtain⟨y,hy⟩:=get_some (xs:=a.xs) (i:=k) oM;refine ag (ba rfl rfl k rfl oM) (ag (bL (j:=0) rfl k hy rfl (by decide)) ?_);have hfy:(kG (a.xs.take (k+1))).length=(kG (a.xs.take k)).length+y.xs.length:=by rw[E4 hy,af0]
  have SB:Mb y _:=⟨List.mem_of_getElem? hy⟩;refine au ?_;refine lN (s:=s1) (ys:=y.xs) rfl rfl (by decide) (fun w hw=>ke (s:=y.sv) Tryz.underlying53 (by decide) ((inferInstance:Hd _ _ y.sv aN 1 y.xs).h w hw)) oM oM fun KP acG acH=>?_;refine au ?_;refine Gi ?_;exact bn (x:=(k,s1)) (k+1,KP) (by simp only;omega) (by simp only;omega) sb (fun w hw=>by rw[E4 hy];exact ai.mem hw)
 obtain rfl:k=a.xs.length:=by omega
 refine au ?_;refine Gr fun w1 hw=>?_;exact⟨s1,rfl,trivial,by rw[ark]at hw;exact ai.mem hw⟩)⟩
instance anx{s:Sv}{ss:List UInt8}[hs:di w0 L aN 1 s ss]:bZ Tryz.prog 230 w0 L [s.val] (Sv) (fun zz=>zz.val) (fun zz=>own aN 1 zz ss::L) (fun zz=>True) (ss.length<=1000000):=⟨fun aG w hw=>Gk (fun zz=>[own aN 1 zz ss]) hw (by
 have hs:=hs.h w hw;have yp:Gv w s aN 1 ss:=⟨hs⟩;refine cC Tryz.func230 rfl Tryz.ntmps230 rfl ?_;refine au ?_;refine ag (uz Tryz.underlying53 rfl) (Gc ?_);refine Gb (fun h0=>?_) fun h0=>?_
 ·
  have e0:ss=[]:=arb.1 (by have:=hs.ok.nil h0;have:=hs.len;omega);refine al ?_;refine Gr fun w1 hw=>?_;exact⟨Sv.none,rfl,trivial,by rw[e0];exact(ai.mem hw:Mem w [] _).dH aN 1⟩
 refine Gc ?_;refine vT aN fun b5=>Gs ?_;refine lN (s:=⟨false,b5,0,0,0,none⟩) (ys:=ss) rfl rfl (by decide) (fun w hw=>ke (s:=s) Tryz.underlying53 (by decide) ((inferInstance:Hd _ _ s aN 1 ss).h w hw)) (by simp only[af0,aqQ,aqS];omega) (by simp only[af0,aqQ,aqS];omega) fun s7 yq wP=>?_;refine ay ?_;refine Gr fun w1 hw=>?_;exact⟨s7,rfl,trivial,by simpa using hw⟩)⟩
instance:eI Tryz.prog 324 (.agg (cX oH)):=⟨by kernel_rfl⟩
instance anz{n:Int}:cd Tryz.prog 144 w0 L [.int .i64 n] (.bool (nL n)) (True):=⟨fun aG w hw=>by
 refine cC Tryz.func144 rfl Tryz.ntmps144 rfl ?_;refine pB ?_;refine Gr fun w1 hw=>?_;exact⟨congrArg (fun b=>Ending.returned (Value.bool b)) (rfl),ai.mem hw⟩⟩
instance anA{n:Int}:cd Tryz.prog 76 w0 L [.int .i64 n] (.int .i64 (dO n)) (True):=⟨fun aG w hw=>by
 refine cC Tryz.func76 rfl Tryz.ntmps76 rfl ?_;refine c6 ?_;refine Gb (fun h0=>?_) fun h0=>?_
 ·
  refine al ?_;refine Gr fun w1 hw=>?_;exact Gf ((by rw[dO,if_neg (by rw[h0];simp)])) hw
 have hf:=r8.1 h0;refine aO ?_;refine Gr fun w1 hw=>?_;exact⟨congrArg (fun b=>Ending.returned (Value.int .i64 b)) ((by rw[dO,if_pos h0])),ai.mem hw⟩⟩
instance anB{x:fe}{n:Int}[hx:aT w0 L x]:cd Tryz.prog 268 w0 L [.agg (cX x), .int .i64 n] (.bool (lW (cI x) n)) (True):=⟨fun aG w hw=>by
 have hx:=hx.h w hw;have AL:cH w x:=⟨hx⟩;refine cQ Tryz.func268 rfl Tryz.ntmps268 rfl ?_;refine Gc ?_;refine bY rfl fun b2=>ay ?_;refine gO oK oK (Gq ?_);refine sW (cj rfl trivial) (au ?_);refine fQ rfl rfl rfl (fun hg=>(Ry.yl (bl (aE hg rfl)))) (H7 rfl rfl rfl (fun hg=>(Ry.yl (aP (o':=0) rfl rfl))) (H7 rfl rfl rfl (fun hg=>(Ry.yl (bW (aE hg rfl)))) (H7 rfl rfl rfl (fun hg=>(Ry.yl (et (aE hg rfl) rfl rfl))) (fQ rfl rfl rfl (fun hg=>(Ry.yl (zb (aE hg rfl) rfl (xB hg rfl)))) (YN ?_)))));refine fQ rfl rfl rfl (fun hg=>cj (eC (aE hg rfl) iI) trivial) (au ?_);refine Gr fun w1 hw=>?_;exact⟨congrArg (fun b=>Ending.returned (Value.bool b)) ((by simp only[lW,cI];rw[show decide ((x.gen.toNat:Int)<281474976710656)=decide (x.gen.toNat<281474976710656)from decide_eq_decide.2 oM];rfl)),ai.mem hw⟩⟩
instance anC{b:Sv}{bs:List UInt8}[hb:di w0 L aN 1 b bs]:cd Tryz.prog 267 w0 L [b.val] (.bool (jT bs)) (True):=⟨fun aG w hw=>by
 have hb:=hb.h w hw;have yt:Gv w b aN 1 bs:=⟨hb⟩;have jz:=hb.bd;refine cC Tryz.func267 rfl Tryz.ntmps267 rfl ?_;refine c6 ?_;refine bT (X:=Nat) (fun zz=>[(7, .int .i64 (zz:Nat)),(5,b.val),(6, .int .i64 (bs.length:Nat))]) (fun zz=>[]) (fun zz=>zz<=bs.length/\ ∀j x,j<zz->bs[j]? =Option.some x->x=255) (fun zz=>bs.length -zz) 0 ⟨Nat.zero_le _,fun j x hj=>by first|omega|(simp only[];omega)⟩ sb (fun w hw=>ai.mem hw) ?_;rintro i ⟨bc,aH⟩;refine al ?_;refine Gb (fun h0=>?_) fun h0=>?_
 ·
  refine mo ?_;obtain⟨y,hy⟩:=get_some (xs:=bs) (i:=i) oM;refine ag (ba rfl rfl i rfl oM) (ag (bL (j:=0) rfl i hy rfl (by decide)) (aO ?_));refine Gb (fun h1=>?_) fun h1=>?_
  ·
   have hz:jT bs=false:=by
    cases hk:jT bs with
    |false=>rfl
    |true=>exact absurd (congrArg UInt8.toNat (Ct.1 hk y (anc hy))) (by intro e;exact h1 (by rw[e];rfl))
   refine al ?_;refine Gr fun w1 hw=>?_;exact Ge (hz.symm) hw
  have KQ:y=255:=atc.1 (show y.toNat=255 by omega);refine al ?_;refine Gi ?_;exact bn (x:=(i)) (i+1) ⟨oF,fun j x hj hx=>if e:j=i then(by subst e;rw[hy]at hx;cases hx;exact KQ)else aH j x oF hx⟩ oF sb (fun w hw=>ai.mem hw)
 obtain rfl:i=bs.length:=by omega
 have hz:jT bs=true:=Ct.2 fun x hx=>by
  obtain⟨j,hj⟩:=arc hx;exact aH j x (ad2.1 hj).1 hj
 refine al ?_;refine Gr fun w1 hw=>?_;exact⟨congrArg (fun b=>Ending.returned (Value.bool b)) (hz.symm),ai.mem hw⟩⟩
instance:eI Tryz.prog 314 (.agg (eP lU)):=⟨by kernel_rfl⟩
instance anD{n:Int}:cd Tryz.prog 143 w0 L [.int .i64 n] (.int .i64 (ki n)) (True):=⟨fun aG w hw=>by
 have hrr:nL n=true->24<=n/\n<=256:=fun h=>r8.1 h;have hrb:0<=dO n/\dO n<=240:=by
  by_cases h:nL n=true
  ·
   have:=hrr h;rw[dO,if_pos h];omega
  rw[dO,if_neg h];omega
 refine cC Tryz.func143 rfl Tryz.ntmps143 rfl ?_;refine aO ?_;refine ag (mj rfl rfl oM oM) (ag (H3 rfl rfl) (ay ?_));refine Gr fun w1 hw=>?_;exact⟨congrArg (fun b=>Ending.returned (Value.int .i64 b)) (rfl),ai.mem hw⟩⟩
instance anE{r:dy}{n:Int}[hr:aT w0 L r]:cd Tryz.prog 254 w0 L [.agg (eP r), .int .i64 n] (.bool (oJ (dE r) n)) (True):=⟨fun aG w hw=>by
 have hr:=hr.h w hw;have ghr:cH w r:=⟨hr⟩;have jz:=hr.1.bd;refine cQ Tryz.func254 rfl Tryz.ntmps254 rfl ?_;refine Gc ?_;refine bY rfl fun b2=>ay ?_;refine gO oK oK (Gq ?_);refine sW (cj rfl trivial) (pB ?_);refine fL rfl rfl rfl (fun hg=>cj (eC (aE hg rfl) iI) trivial) (al ?_);refine Gb (fun h0=>?_) fun h0=>?_
 ·
  have hz:oJ (dE r) n=false:=by
   cases hk:oJ (dE r) n with
   |false=>rfl
   |true=>
    obtain⟨g1,g2,g3,g4⟩:=wz.1 hk;simp only[dE]at g2 g3;omega
  refine al ?_;refine Gr fun w1 hw=>?_;exact Ge (hz.symm) hw
 have g0:dO n≠0/\r.gen.toNat<281474976710656/\(r.at_.xs.length:Int)<=ki n:=⟨by omega,by omega,by omega⟩;refine aY ?_;refine bT (X:=Nat) (fun zz=>[(26, .int .i64 (zz:Nat)),(24,r.at_.sv.val),(25, .int .i64 (r.at_.xs.length:Nat))]) (fun zz=>[ar b2 (eP r) 314]) (fun zz=>zz<=r.at_.xs.length/\ ∀j x,j<zz->r.at_.xs[j]? =Option.some x->xZ x=true) (fun zz=>r.at_.xs.length -zz) 0 ⟨Nat.zero_le _,fun j x hj=>by first|omega|(simp only[];omega)⟩ sb (fun w hw=>ai.mem hw) ?_;rintro i ⟨bc,aH⟩;refine al ?_;refine Gb (fun h1=>?_) fun h1=>?_
 ·
  refine mo ?_;obtain⟨y,hy⟩:=get_some (xs:=r.at_.xs) (i:=i) oM;refine ag (ba rfl rfl i rfl oM) (ag (bL (j:=0) rfl i hy rfl (by decide)) (ik ?_));refine Gb (fun h2=>?_) fun h2=>?_
  ·
   have hz:oJ (dE r) n=false:=by
    cases hk:oJ (dE r) n with
    |false=>rfl
    |true=>
     have g:=Cu.1 ((wz.1 hk).2.2.2 y (anc hy));omega
   refine al ?_;refine Gr fun w1 hw=>?_;exact Ge (hz.symm) hw
  have KR:xZ y=true:=Cu.2 ⟨by omega,by omega⟩;refine al ?_;refine Gi ?_;exact bn (x:=(i)) (i+1) ⟨oF,fun j x hj hx=>if e:j=i then(by subst e;rw[hy]at hx;cases hx;exact KR)else aH j x oF hx⟩ oF sb (fun w hw=>ai.mem hw)
 obtain rfl:i=r.at_.xs.length:=by omega
 have hz:oJ (dE r) n=true:=wz.2 ⟨g0.1,g0.2.1,g0.2.2,fun x hx=>by
  obtain⟨j,hj⟩:=arc hx;exact aH j x (ad2.1 hj).1 hj⟩
 refine al ?_;refine Gr fun w1 hw=>?_;exact⟨congrArg (fun b=>Ending.returned (Value.bool b)) (hz.symm),ai.mem hw⟩⟩
instance:eI Tryz.prog 63 (.agg (cn lV)):=⟨by kernel_rfl⟩
instance anF{c:Cp}[hc:aT w0 L c]:cd Tryz.prog 164 w0 L [.agg (aS c)] (.bool (fV (cv c))) (True):=⟨fun aG w hw=>by
 have hc:=hc.h w hw;have kT:cH w c:=⟨hc⟩;refine cC Tryz.func164 rfl Tryz.ntmps164 rfl ?_;refine Gc ?_;refine bY rfl fun b1=>YO ?_;refine Gr fun w1 hw=>?_;exact⟨congrArg (fun b=>Ending.returned (Value.bool b)) ((by simp only[fV,cv,gU];rfl)),ai.mem hw⟩⟩
instance anG{c:Cp}[hc:aT w0 L c]:bZ Tryz.prog 165 w0 L [.agg (aS c)] (Cp) (fun zz=> .agg (aS zz)) (fun zz=>fz zz::L) (fun zz=>cv zz=cv c) (gg c):=⟨fun aG w hw=>Gk (fun zz=>[fz zz]) hw (by
 have hc:=hc.h w hw;have kT:cH w c:=⟨hc⟩;refine cC Tryz.func165 rfl Tryz.ntmps165 rfl ?_;refine Gc ?_;refine bY rfl fun b1=>bt fun b2=>au ?_;refine bg rfl (by assumption) fun x9 CT=>Gs ?_;refine ag (aK (v:= .agg (aS x9)) rfl rfl) (ag (aK (v:= .int .i64 (wu (cv c) c.aU.xs)) rfl rfl) (bt fun b3=>aY ?_));refine eN (cs':=aS (⟨x9.pages,x9.size,x9.blocks,x9.ops,c.off,x9.aU⟩:Cp)) rfl rfl (by show 4<6;decide) (by first|rfl|exact Sv.one _) rfl (au ?_);refine Gr fun w1 hw=>?_;exact⟨(⟨x9.pages,x9.size,x9.blocks,x9.ops,c.off,x9.aU⟩:Cp),rfl,by
  have h9:cv (⟨x9.pages,x9.size,x9.blocks,x9.ops,c.off,x9.aU⟩:Cp)={cv x9 with off:=(cv c).off}:=rfl
  rw[h9,CT];exact aaJ (cv c),by
  have h9:Mem w [fz x9] _:=ai.mem hw;exact h9⟩)⟩
instance anH{s:Sv}{ss:List Int}[hs:di w0 L bw 1 s ss]:bZ Tryz.prog 169 w0 L [s.val] (Sv) (fun zz=>zz.val) (fun zz=>own bw 1 zz ss::L) (fun zz=>True) (ss.length<=1000000):=⟨fun aG w hw=>Gk (fun zz=>[own bw 1 zz ss]) hw (by
 have hs:=hs.h w hw;have yp:Gv w s bw 1 ss:=⟨hs⟩;refine cC Tryz.func169 rfl Tryz.ntmps169 rfl ?_;refine au ?_;refine ag (uz Tryz.underlying60 rfl) (Gc ?_);refine Gb (fun h0=>?_) fun h0=>?_
 ·
  have e0:ss=[]:=arb.1 (by have:=hs.ok.nil h0;have:=hs.len;omega);refine al ?_;refine Gr fun w1 hw=>?_;exact⟨Sv.none,rfl,trivial,by rw[e0];exact(ai.mem hw:Mem w [] _).dH bw 1⟩
 refine Gc ?_;refine vT bw fun b5=>Gs ?_;refine lN (s:=⟨false,b5,0,0,0,none⟩) (enc:=bw) (ys:=ss) rfl rfl (by decide) (fun w hw=>ke (s:=s) Tryz.underlying60 (by decide) ((inferInstance:di _ _ bw 1 s ss).h w hw)) (by simp only[aqS];omega) (by simp only[aqS];omega) fun s7 yq wP=>?_;refine ay ?_;refine Gr fun w1 hw=>?_;exact⟨s7,rfl,trivial,by rw[arJ]at hw;exact ai.mem hw⟩)⟩
instance anI{v:cl}[hv:aT w0 L v]:bZ Tryz.prog 175 w0 L [.agg (cn v)] (Cp×Sv) (fun zz=> .agg (cn (⟨zz.1,⟨zz.2,v.at_.xs⟩,v.gen,v.last⟩:cl))) (fun zz=>fz zz.1::own bw 1 zz.2 v.at_.xs::L) (fun zz=>cv zz.1=cv v.ae) (gg v.ae/\v.at_.xs.length<=1000000):=⟨fun aG w hw=>Gk (fun zz:Cp×Sv=>[fz zz.1,own bw 1 zz.2 v.at_.xs]) hw (by
 have hv:=hv.h w hw;have CU:cH w v:=⟨hv⟩;obtain⟨gL,gZ⟩:=aG;refine cC Tryz.func175 rfl Tryz.ntmps175 rfl ?_;refine Gc ?_;refine bY rfl fun b1=>bt fun b2=>Gc ?_;refine uL [2,5,7,9,1001,1004,5002,5005] [[],[],[1],[],[],[1,2,4],[1,2,4],[1,2,4,5],[1,2,4,5,7],[1,2,4,5,7]] [0,1,3,4,2,6,5,7,8,9] [] [] oK (fun _ hw=>ai.mem hw) oK oK (an rfl (aP (o':=0) rfl rfl) (lh rfl (iJ rfl) (an rfl (aP (o':=6) rfl rfl) (lh rfl (bW rfl) (Pa rfl (pA rfl (by assumption) fun x5 KS=>⟨fun _ hw=>ai.mem hw,fun _ hw=>ai.mem hw,?_⟩))))));refine an rfl (aP (o':=0) rfl rfl) (Pa rfl (pA rfl oM fun x8 rr=>⟨fun _ hw=>ai.mem hw,fun _ hw=>ai.mem hw,?_⟩));refine dN rfl (O3 (cs':=cn ({v with ae:=x5}:cl)) rfl rfl (by show 0+6<=9;decide) rfl ⟨fun _ hw=>ai.mem hw,?_⟩)
 refine an rfl (aP (o':=6) rfl rfl) ?_;refine dN rfl (zU (cs':=cn (⟨x5,⟨x8,v.at_.xs⟩,v.gen,v.last⟩:cl)) rfl rfl (by show 6<9;decide) (by first|rfl|exact Sv.one _) rfl ⟨fun _ hw=>ai.mem hw,?_⟩);refine au ?_;refine Gr fun w1 hw=>?_;exact⟨(x5,x8),rfl,KS,ai.mem hw⟩)⟩
theorem acI(b:List UInt8)(w:World):(Instr.build 324 #[(0, .int .i64 ((b.getD 0 0).toNat:Int)),(1, .int .i64 ((b.getD 1 0).toNat:Int)),(2, .int .u64 ((de ((b.drop 2).take (8 -2)):Nat):Int))]).run Tryz.prog w= .ok (.agg (cX (uX b))) w:=by
 rw[←Qx];unfold cX uX;generalize UInt64.ofNat (de ((b.drop 2).take (8 -2)))=g;kernel_rfl
instance anJ{b:Sv}{bs:List UInt8}[hb:di w0 L aN 1 b bs]:bZ Tryz.prog 227 w0 L [b.val] (fe) (fun zz=> .tuple #[.agg (cX zz), .int .i64 ((cD bs).2)]) (fun zz=>own aN 1 zz.body.sv zz.body.xs::L) (fun zz=>cI zz=(cD bs).1) (True):=⟨fun aG w hw=>Gk (fun zz:fe=>[own aN 1 zz.body.sv zz.body.xs]) hw (by
 have hb:=hb.h w hw;have yt:Gv w b aN 1 bs:=⟨hb⟩;have jz:=hb.bd;have ghd:cH w (uX bs):=⟨⟨eJ.nil _ _ _,fun x hx=>by cases hx⟩⟩;have hml:=Qw bs;have yw:=JK bs;have qb:=Jn (lX bs);have dD:=aaE bs;refine cC Tryz.func227 rfl Tryz.ntmps227 rfl ?_;refine Gc ?_;refine bt fun b2=>c6 ?_;refine Gb (fun h0=>?_) fun h0=>?_
 ·
  have hE:cD bs=(jS,3):=by rw[cD,if_pos h0]
  refine Gc ?_;refine ag (da (v:= .agg (cX oH)) rfl (fun w=>by kernel_rfl)) (al ?_);refine Gr fun w1 hw=>?_;exact⟨oH,by rw[hE],by rw[hE];rfl,Mem.dH aN 1 (ai.mem hw:Mem w [] _)⟩
 have hft:=r8.1 h0;have wU:dO bs.length=bs.length -16:=by rw[dO,if_pos h0]
 refine au ?_;refine Gb (fun h1=>?_) fun h1=>?_
 ·
  have hE:cD bs=(jS,0):=by rw[cD,if_neg (by rw[h0];simp),if_pos h1]
  refine Gc ?_;refine ag (da (v:= .agg (cX oH)) rfl (fun w=>by kernel_rfl)) (al ?_);refine Gr fun w1 hw=>?_;exact⟨oH,by rw[hE],by rw[hE];rfl,Mem.dH aN 1 (ai.mem hw:Mem w [] _)⟩
 refine Gc ?_;refine gO oK oK (au ?_);have SC:Rg 0 (bs.length -4) bs.length:=⟨by omega⟩;refine bH (NR rfl rfl (bs.length -4) oM SC.h.2) (au ?_);have Gx:Rg (bs.length -4) bs.length bs.length:=⟨by omega⟩;refine bH (En rfl rfl (bs.length -4) oM Gx.h.1) (au ?_);refine dR (cj (v:= .int .u64 ((de (xY bs):Nat):Int)) rfl (by rw[aqT,aq9];omega)) (Gs ?_);refine dR (cj (v:= .int .u32 ((nH (lX bs):Nat):Int)) rfl trivial) (ag (kZ rfl (by simp only[nb];omega)) (ay ?_));refine Gb (fun h2=>?_) fun h2=>?_
 ·
  have hE:cD bs=(jS,4):=by rw[cD,if_neg (by rw[h0];simp),if_neg (by rw[h1];simp),if_pos (fun e=>h2 (by rw[e]))]
  refine Gc ?_;refine ag (da (v:= .agg (cX oH)) rfl (fun w=>by kernel_rfl)) (al ?_);refine Gr fun w1 hw=>?_;exact⟨oH,by rw[hE],by rw[hE];rfl,Mem.dH aN 1 (ai.mem hw:Mem w [] _)⟩
 have qW: ¬de (xY bs)≠nH (lX bs):=fun e=>e oM;refine Gc ?_;refine jh [12,13] [[],[],[],[],[],[],[],[],[],[],[],[],[],[12]] [0,1,2,3,4,5,6,7,8,9,10,11,12,13] [] (fun _ hw=>ai.mem hw) oK oK (an rfl (bl rfl) (an rfl (ba rfl rfl 0 rfl oM) (an rfl (bL (j:=0) rfl 0 (pt (xs:=bs) (i:=0) (d:=0) oM) rfl (by decide)) (an rfl (vS rfl) (an rfl (bl rfl) (an rfl (ba rfl rfl 1 rfl oM) (an rfl (bL (j:=0) rfl 1 (pt (xs:=bs) (i:=1) (d:=0) oM) rfl (by decide)) (an rfl (vS rfl) (an rfl (bl rfl) ?_)))))))));have SD:Rg 2 8 bs.length:=⟨by omega⟩;refine an rfl (Em rfl rfl rfl 2 8 rfl rfl SD.h.1 SD.h.2) (xM rfl (cj rfl (by simp;omega)) (an rfl (da (v:= .agg (cX (uX bs))) rfl (acI bs)) (dN rfl (O2 fun b6=>⟨fun _ hw=>ai.mem hw,?_⟩))));refine dN rfl (qX rfl rfl ⟨fun _ hw=>ai.mem hw,?_⟩);refine ay ?_;have SE:Rg 8 10 bs.length:=⟨by omega⟩;refine ag (Em rfl rfl rfl 8 10 rfl rfl SE.h.1 SE.h.2) (dR (cj (v:= .int .u64 ((hU bs:Nat):Int)) rfl (by rw[aqT];omega)) (ag (kZ rfl (by simp only[nb];omega)) (fx ?_)));refine bP rfl rfl rfl (fun hg=>(Ry.yl (jO rfl))) (ay ?_);refine bP rfl rfl rfl (fun hg=>cj (eC (aE hg rfl) (eC (aE hg rfl) iI)) trivial) (bP rfl rfl rfl (fun hg=>(Ry.yl (nj (aE hg rfl)))) (ay ?_));refine Gb (fun h3=>?_) fun h3=>?_
 ·
  have kN:oI bs=false:=by
   rw[JL]at h3
   cases hk:oI bs with
   |false=>rfl
   |true=>
    simp only[oI,alM,decide_eq_true_eq]at hk;rw[hk.2]at h3;simp only[asF,or_false]at h3;omega
  have hE:cD bs=(jS,2):=by rw[cD,if_neg (by rw[h0];simp),if_neg (by rw[h1];simp),if_neg qW,if_pos kN]
  refine Gc ?_;refine ag (da (v:= .agg (cX oH)) rfl (fun w=>by kernel_rfl)) (al ?_);refine Gr fun w1 hw=>?_;exact⟨oH,by rw[hE],by rw[hE];rfl,Mem.dH aN 1 (ai.mem hw:Mem w [] _)⟩
 have kN:oI bs=true:=by
  rw[JL]at h3;simp only[oI,alM,decide_eq_true_eq];exact⟨by omega,h3.2⟩
 have hmr:(hU bs:Int)<=dO bs.length:=by simp only[oI,alM,decide_eq_true_eq]at kN;exact kN.1
 have wR:(nM bs).length=(lX bs).length -(10+hU bs):=by rw[nM,aqT,aq9];omega
 have gr:Gv w ((b.sub 1 0 (bs.length -4)).sub 1 (10+hU bs) (lX bs).length) aN 1 (nM bs):=⟨(hb.sub (lo:=0) (hi:=bs.length -4) oM oM).sub (lo:=10+hU bs) (hi:=(lX bs).length) oM (aqY _)⟩;refine au ?_;have acJ:Rg (10+hU bs) ((lX bs).length) (lX bs).length:=⟨by omega⟩;refine ag (En rfl rfl (10+hU bs) rfl acJ.h.1) (al ?_);refine bT (X:=Nat) (fun zz=>[(69, .int .i64 (zz:Nat)),(0,b.val),(2, .pointer (some ⟨b2,0,none⟩)),(6, .pointer (some ⟨b6,0,none⟩)),(7, .int .i64 (hU bs:Nat)),(67,((b.sub 1 0 (bs.length -4)).sub 1 (10+hU bs) (lX bs).length).val),(68, .int .i64 ((nM bs).length:Nat))]) (fun zz=>[ar b6 (cX (uX bs)) 324,ar b2 (cX oH) 324]) (fun zz=>zz<=(nM bs).length/\ ∀j x,j<zz->(nM bs)[j]? =Option.some x->x=0) (fun zz=>(nM bs).length -zz) 0 ⟨Nat.zero_le _,fun j x hj=>by first|omega|(simp only[];omega)⟩ sb (fun w hw=>ai.mem hw) ?_;rintro i ⟨bc,aH⟩;refine al ?_;refine Gb (fun h4=>?_) fun h4=>?_
 ·
  refine mo ?_;obtain⟨y,hy⟩:=get_some (xs:=(nM bs)) (i:=i) oM;refine ag (ba rfl rfl i rfl oM) (ag (bL (j:=0) rfl i hy rfl (by decide)) (aO ?_));refine Gb (fun h5=>?_) fun h5=>?_
  ·
   have vf:wy (nM bs)=false:=by
    cases hk:wy (nM bs)with
    |false=>rfl
    |true=>exact absurd (congrArg UInt8.toNat (JJ.1 hk y (anc hy))) (by intro e;exact h5 (by rw[e];rfl))
   have hE:cD bs=(jS,2):=by rw[cD,if_neg (by rw[h0];simp),if_neg (by rw[h1];simp),if_neg qW,if_neg (by rw[kN];simp),if_pos vf]
   refine Gc ?_;refine ag (da (v:= .agg (cX oH)) rfl (fun w=>by kernel_rfl)) (al ?_);refine Gr fun w1 hw=>?_;exact⟨oH,by rw[hE],by rw[hE];rfl,Mem.dH aN 1 (ai.mem hw:Mem w [] _)⟩
  have KQ:y=0:=atc.1 (show y.toNat=0 by omega);refine al ?_;refine Gi ?_;exact bn (x:=(i)) (i+1) ⟨oF,fun j x hj hx=>if e:j=i then(by subst e;rw[hy]at hx;cases hx;exact KQ)else aH j x oF hx⟩ oF sb (fun w hw=>ai.mem hw)
 obtain rfl:i=(nM bs).length:=by omega
 have vf:wy (nM bs)=true:=JJ.2 fun x hx=>by
  obtain⟨j,hj⟩:=arc hx;exact aH j x (ad2.1 hj).1 hj
 have hE:cD bs=({uW bs with body:=((bs.drop 10).take (10+hU bs -10))},0):=by rw[cD,if_neg (by rw[h0];simp),if_neg (by rw[h1];simp),if_neg qW,if_neg (by rw[kN];simp),if_neg (by rw[vf];simp)]
 refine au ?_;refine Gb (fun h6=>?_) fun h6=>?_
 ·
  refine Gi ?_;refine al ?_;have SF:Rg 10 (10+hU bs) bs.length:=⟨by omega⟩;refine ag (Em rfl rfl rfl 10 (10+hU bs) rfl rfl SF.h.1 SF.h.2) (bg rfl (by simp only[aqT,aq9];omega) fun KT anK=>Gs ?_);refine eN (cs':=cX (⟨((bs.getD 0 0).toNat:Int),((bs.getD 1 0).toNat:Int),(UInt64.ofNat (de ((bs.drop 2).take (8 -2)))),⟨KT,((bs.drop 10).take ((10+hU bs) -10))⟩⟩:fe)) rfl rfl (by show 3<4;decide) (by first|rfl|exact Sv.one _) rfl (aO ?_);refine Gr fun w1 hw=>?_;exact⟨⟨((bs.getD 0 0).toNat:Int),((bs.getD 1 0).toNat:Int),UInt64.ofNat (de ((bs.drop 2).take (8 -2))),⟨KT,((bs.drop 10).take (10+hU bs -10))⟩⟩,by rw[hE],by rw[hE];exact Qy bs KT ((bs.drop 10).take (10+hU bs -10)),ai.mem hw⟩
 have nW:hU bs=0:=by omega
 refine aO ?_;refine Gr fun w1 hw=>?_;exact⟨uX bs,by rw[hE],by rw[hE,JL,nW];simp[uW],Mem.dH aN 1 (ai.mem hw:Mem w [] _)⟩)⟩
instance anL{c:Cp}{id:Int}{n:Int}[hc:aT w0 L c]:cd Tryz.prog 303 w0 L [.agg (aS c), .int .i64 id, .int .i64 n] (.bool (nN (cv c) id n)) (aX (cv c)=true/\1<=n/\n<=1000000):=⟨fun aG w hw=>by
 have hc:=hc.h w hw;have kT:cH w c:=⟨hc⟩;obtain⟨hk,CW,yx⟩:=aG;have dP:=gU c.blocks.xs;have iB:=lR.1 (fy.1 hk).1;simp only[cv,dP]at iB;have CX:0<=((n -1)/c.pages):=asW oM oM;have HR:((n -1)/c.pages)<=n -1:=Int.ediv_le_self _ oM;have nW:0<=((n -1)%c.pages):=asZ _ oM;have pN:((n -1)%c.pages)<c.pages:=as5 _ oM;have pO:=xX (c:=c) (b:=((n -1)/c.pages));have KU:(c.blocks.xs.getD ((n -1)/c.pages).toNat ql).used=(ak (cv c) ((n -1)/c.pages)).used:=congrArg BV.used pO;refine wi Tryz.func303 rfl Tryz.ntmps303 rfl ?_;refine Gc ?_;refine bY rfl fun b3=>ay ?_;refine gO oK oK (au ?_);refine bH (mj rfl rfl oM oM) (au ?_);refine bH (zl rfl rfl oM oM) (Pd ?_);refine bP rfl rfl rfl (fun hg=>(Ry.yl (ba (aE hg rfl) (aE hg rfl) (((n -1)/c.pages).toNat) (by simp only[Z0,Z1,Z2,Z3,Z4,Z5,Z6,Z7,Z8,Z9]at hg;omega) (by simp only[Z0,Z1,Z2,Z3,Z4,Z5,Z6,Z7,Z8,Z9]at hg;omega)))) (bP rfl rfl rfl (fun hg=>(Ry.yl (aP (aE hg rfl) rfl))) (bP rfl rfl rfl (fun hg=>(Ry.yl (bL (j:=1) (aE hg rfl) (((n -1)/c.pages).toNat) (pt (xs:=c.blocks.xs) (i:=((n -1)/c.pages).toNat) (d:=ql) (by simp only[Z0,Z1,Z2,Z3,Z4,Z5,Z6,Z7,Z8,Z9]at hg;omega)) rfl (by decide)))) (al ?_)));refine Gb (fun h0=>?_) fun h0=>?_
 ·
  have hz:nN (cv c) id n=false:=by
   cases tM:kI (cv c) (n -1)with
   |false=>rw[nN,tM];rfl
   |true=>
    obtain⟨g1,g2,g3⟩:=mu.1 tM;change 2<=((n -1)/c.pages)at g1;change((n -1)/c.pages)<((iU c.blocks.xs).length:Int)at g2;change((n -1)%c.pages)<(ak (cv c) ((n -1)/c.pages)).used at g3;rw[dP]at g2;omega
  refine al ?_;refine Gr fun w1 hw=>?_;exact Ge (hz.symm) hw
 have bS:kI (cv c) (n -1)=true:=mu.2 ⟨show 2<=((n -1)/c.pages) by omega,by simp only[cv,dP];omega,show((n -1)%c.pages)<(ak (cv c) ((n -1)/c.pages)).used by omega⟩;obtain⟨B,hB⟩:=get_some (xs:=c.blocks.xs) (i:=((n -1)/c.pages).toNat) oM;have sD:Mb B c.blocks:=⟨List.mem_of_getElem? hB⟩;have eX:bv B=ak (cv c) ((n -1)/c.pages):=by rw[←pO];simp[List.getD,hB]
 have gm:=fc.1 ((fy.1 hk).2.2.2.2 (bv B) (anc (mW hB)));have iY:=oA B.pages.xs;have CY:(B.pages.xs.length:Int)=c.pages:=by have:=gm.1;simp only[bv,cv,iY]at this;exact this
 obtain⟨y,hy⟩:=get_some (xs:=B.pages.xs) (i:=((n -1)%c.pages).toNat) oM;have KV:Mb y B.pages:=⟨List.mem_of_getElem? hy⟩;have qy:bK (cv c) (n -1)=y.xs:=by
  show(ak (cv c) ((n -1)/c.pages)).pages.getD ((n -1)%c.pages).toNat []=y.xs;rw[←eX];simp[bv,List.getD,qm hy]
 refine au ?_;refine ag (ba rfl rfl (((n -1)/c.pages).toNat) oM oM) (ag (aP rfl rfl) (ag (bL (j:=0) rfl (((n -1)/c.pages).toNat) hB rfl (by decide)) ?_));have anM:Mb B _:=⟨List.mem_of_getElem? hB⟩;refine Gs ?_;refine ag (ba rfl rfl (((n -1)%c.pages).toNat) oM oM) (ag (bL (j:=0) rfl (((n -1)%c.pages).toNat) hy rfl (by decide)) ?_);have anN:Mb y _:=⟨List.mem_of_getElem? hy⟩;refine bg rfl trivial fun lG vg=>?_;have e1:lG.kind=(cD y.xs).1.kind:=congrArg PV.kind vg;have e2:lG.id=(cD y.xs).1.id:=congrArg PV.id vg;refine Gs ?_;refine ag (aK (v:= .agg (cX lG)) rfl rfl) (ag (aK (v:= .int .i64 ((cD y.xs).2)) rfl rfl) (bt fun b9=>Pe ?_));refine Gr fun w1 hw=>?_;exact⟨congrArg (fun b=>Ending.returned (Value.bool b)) ((by rw[nN,bS,qy,FF,←e1,←e2];rfl)),ai.mem hw⟩⟩
def nX(n:Int):Value:= .int .i64 n
def qB(_:Unit):Value:= .agg #[]
instance:CP nX:=⟨fun h=>by simpa[nX]using h⟩
instance:CO Tryz.prog 3:=⟨Maps.int_keyed Tryz.underlying3⟩
instance:AH Tryz.prog 318 3 319:=⟨Tryz.underlying318⟩
instance:eI Tryz.prog 319 (.agg #[]):=⟨by kernel_rfl⟩
instance:fP (#[]:Array Value) 0:=⟨rfl,by simp⟩
theorem KW{n:Int}(h: -9223372036854775808<=n/\n<=9223372036854775807): ∃l,keyOf Tryz.prog 3 (nX n)=some l:=⟨_,Maps.keyOf_int_mk Tryz.underlying3 (by simp[Lit.wf,IntKind.min,IntKind.max,IntKind.signed,IntKind.bits];omega)⟩
instance anO{c:Cp}{t:Sv}{ts:List Int}[hc:aT w0 L c][ht:di w0 L bw 1 t ts]:cd Tryz.prog 259 w0 L [.agg (aS c),t.val] (.bool (uZ (cv c) ts)) (aX (cv c)=true/\ ∀x∈ts,0<=x/\x<=65535):=⟨fun aG w hw=>by
 have hc:=hc.h w hw;have ht:=ht.h w hw;have kT:cH w c:=⟨hc⟩;have wV:Gv w t bw 1 ts:=⟨ht⟩;obtain⟨hk,oV⟩:=aG;have jz:=ht.bd;refine cQ Tryz.func259 rfl Tryz.ntmps259 rfl ?_;refine Gc ?_;refine bY rfl fun b2=>au ?_;refine acx nX qB rfl fun vh=>aY ?_;refine bT (X:=Nat) (fun zz=>[(15, .int .i64 (zz:Nat)),(5, .map (some vh)),(2, .pointer (some ⟨b2,0,none⟩)),(13,t.val),(14, .int .i64 (ts.length:Nat))]) (fun zz=>[omap Tryz.prog 3 nX qB vh (kj ts zz),ar b2 (aS c) 59]) (fun zz=>zz<=ts.length/\ ∀j,j<zz->re (cv c) ts j=true) (fun zz=>ts.length -zz) 0 ⟨Nat.zero_le _,fun j hj=>by first|omega|(simp only[];omega)⟩ sb (fun w hw=>by
  rw[←QB];exact ai.mem hw) ?_
 rintro i ⟨bc,aH⟩;refine al ?_;refine Gb (fun h0=>?_) fun h0=>?_
 ·
  obtain⟨y,hy⟩:=get_some (xs:=ts) (i:=i) oM;have hyr:=oV y (anc hy);have oW:=pI hy;have wW:=KW (n:=y) oM;refine ay ?_;refine ag (ba rfl rfl i rfl oM) (ag (bL (j:=0) rfl i hy rfl (by decide)) (aY ?_));refine Gb (fun h1=>?_) fun h1=>?_
  ·
   subst h1;have bF:re (cv c) ts i=true:=by rw[re,oW];rfl
   refine al ?_;refine Gi ?_;exact bn (x:=(i)) (i+1) ⟨oF,fun j hj=>if e:j=i then e▸bF else aH j oF⟩ oF sb (fun w hw=>by
    rw[QC hy];exact ai.mem hw)
  refine al ?_;refine ag (KF (df:=nX) (eH:=qB) (f:=kj ts i) (v:=y) (z:=()) rfl rfl wW) (Gs ?_);refine ag (aK (v:= .agg #[]) rfl rfl) (ag (aK (v:= .bool ((kj ts i y).isSome)) rfl rfl) (bt fun b8=>aO ?_));refine bP rfl rfl rfl (fun hg=>(Ry.yl (jO rfl))) (ay ?_);refine bP rfl rfl rfl (fun hg=>cj (eC (aE hg rfl) (eC (aE hg rfl) (eC (aE hg rfl) iI))) ⟨hk,by omega,by omega⟩) (bP rfl rfl rfl (fun hg=>(Ry.yl (nj (aE hg rfl)))) (ay ?_));refine Gb (fun h2=>?_) fun h2=>?_
  ·
   have hz:uZ (cv c) ts=false:=by
    cases tM:uZ (cv c) ts with
    |false=>rfl
    |true=>
     have g:=Cv.1 tM i oM;rw[re,oW]at g;rw[Cx]at h2;simp only[ar4,alM,decide_eq_true_eq,arX,atH,decide_eq_false_iff_not]at g h2;rcases g with g|g
     ·
      exact absurd g h1
     rcases h2 with h2|h2
     ·
      exact absurd h2.2 g.1
     rw[g.2]at h2;cases h2
   refine al ?_;refine Gr fun w1 hw=>?_;exact Ge (hz.symm) hw
  have bF:re (cv c) ts i=true:=by
   rw[Cx]at h2;rw[re,oW];simp only[ar4,alM,decide_eq_true_eq,arX,atH,decide_eq_false_iff_not]at h2⊢;exact .inr ⟨fun hm=>h2.1 ⟨h1,hm⟩,h2.2⟩
  have fg:=QD hy h1;refine al ?_;refine ag (da (v:= .agg #[]) rfl (fun w=>by kernel_rfl)) (KG (df:=nX) (eH:=qB) (v:=y) (u:=()) rfl rfl rfl wW (al ?_));refine Gi ?_;exact bn (x:=(i)) (i+1) ⟨oF,fun j hj=>if e:j=i then e▸bF else aH j oF⟩ oF sb (fun w hw=>by
   rw[←fg];exact ai.mem hw)
 obtain rfl:i=ts.length:=by omega
 have hz:uZ (cv c) ts=true:=Cv.2 fun j hj=>aH j hj;refine al ?_;refine Gr fun w1 hw=>?_;exact⟨congrArg (fun b=>Ending.returned (Value.bool b)) (hz.symm),ai.mem hw⟩⟩
instance:eI Tryz.prog 402 (.agg (bG dW)):=⟨by kernel_rfl⟩
theorem acK(u v:Int)(b:Bool)(w:World):(Instr.build 402 #[(1, .int .i64 u),(2, .int .i64 v),(3, .bool b)]).run Tryz.prog w= .ok (.agg (bG ⟨0,u,v,b⟩)) w:=by
 unfold bG;kernel_rfl
instance anP{c:Cp}{l:Sl (Sl Int)}[hc:aT w0 L c][hl:aT w0 L l]:bZ Tryz.prog 326 w0 L [.agg (aS c),l.sv.val] (Sv) (fun zz=>zz.val) (fun zz=>own bG 4 zz (iW (cv c) (aw l.xs))::L) (fun zz=>True) (wA (cv c) (aw l.xs)):=⟨fun aG w hw=>Gk (fun zz=>[own bG 4 zz (iW (cv c) (aw l.xs))]) hw (by
 have hc:=hc.h w hw;have hl:=hl.h w hw;have kT:cH w c:=⟨hc⟩;have qC:cH w l:=⟨hl⟩;obtain⟨⟨hk,oE⟩,nP,iG⟩:=aG;have jz:=hl.1.bd;have dP:=gU c.blocks.xs;have oT:(cv c).blocks.length=c.blocks.xs.length:=dP;have iB:=lR.1 (fy.1 hk).1;simp only[cv,dP]at iB;have nG:=Am (cv c) (aw l.xs);rw[oT]at nG;have wR:(List.replicate (c.blocks.xs.length -2) dW).length=c.blocks.xs.length -2:=List.length_replicate;refine cQ Tryz.func326 rfl Tryz.ntmps326 rfl ?_;refine Gc ?_;refine bY rfl fun b2=>aY ?_;refine rJ (enc:=bG) (n:=(c.blocks.xs.length -2)) (cap:=(c.blocks.xs.length -2)) dW rfl rfl rfl oM oM oM oM oM fun lH=>aY ?_;refine bT (X:=Nat×List az) (fun zz=>[(22, .int .i64 (zz.1:Nat)),(5,(⟨false,lH,0,c.blocks.xs.length -2,c.blocks.xs.length -2,none⟩:Sv).val),(1,l.sv.val),(2, .pointer (some ⟨b2,0,none⟩)),(21, .int .i64 ((List.replicate (c.blocks.xs.length -2) dW).length:Nat))]) (fun zz=>[own bG 4 ⟨false,lH,0,c.blocks.xs.length -2,c.blocks.xs.length -2,none⟩ zz.2,ar b2 (aS c) 59]) (fun zz=>zz.1<=c.blocks.xs.length -2/\zz.2.length=c.blocks.xs.length -2/\zz.2.take zz.1=(jV (cv c) (aw l.xs) 0).take zz.1) (fun zz=>c.blocks.xs.length -2 -zz.1) (0,List.replicate (c.blocks.xs.length -2) dW) ⟨Nat.zero_le _,by simp,by simp⟩ sb (fun w hw=>ai.mem hw) ?_;rintro⟨i,zs⟩ ⟨bc,aH,bB⟩;dsimp only;simp only at bc aH bB;refine al ?_;refine Gb (fun h0=>?_) fun h0=>?_
 ·
  obtain⟨B,hB⟩:=get_some (xs:=c.blocks.xs) (i:=i+2) oM;have sD:Mb B c.blocks:=⟨List.mem_of_getElem? hB⟩;obtain⟨z,hz⟩:=get_some (xs:=zs) (i:=i) oM;have zX:(zs.set i (⟨0,B.used,B.aR,B.bad⟩:az)).take (i+1)=(jV (cv c) (aw l.xs) 0).take (i+1):=by
   have e1:=FB (f:=id) (z':=(⟨0,B.used,B.aR,B.bad⟩:az)) hz;simp only[List.map_id]at e1;rw[e1,bB,aq0,aaU,aq1,asr oM,arE,show ak (cv c) ((i:Int)+2)=bv B from JQ (i:=i+2) hB];rfl
  refine fx ?_;refine ag (ba rfl rfl (i+2) rfl oM) (ag (iK rfl (i+2) hB rfl) ?_);have SB:Mb B c.blocks:=⟨List.mem_of_getElem? hB⟩;refine bt fun b7=>rW ?_;refine ag (da (v:= .agg (bG (⟨0,B.used,B.aR,B.bad⟩:az))) rfl (acK B.used B.aR B.bad)) (ag (ba rfl rfl i rfl oM) (kz (s:=⟨false,lH,0,c.blocks.xs.length -2,c.blocks.xs.length -2,none⟩) (n:=4) (k:=i) (j:=0) (a:=z) (a':=(⟨0,B.used,B.aR,B.bad⟩:az)) (xs:=zs) (enc:=bG) (c:=4) (v:= .agg (bG (⟨0,B.used,B.aR,B.bad⟩:az))) oK rfl rfl rfl hz (bm.one (enc:=bG) (c:=4) _) rfl (by decide) (by rfl) (al ?_)));refine Gi ?_;exact bn (x:=(i,zs)) (i+1,zs.set i (⟨0,B.used,B.aR,B.bad⟩:az)) ⟨oF,by rw[aru];exact aH,zX⟩ (by simp only;omega) sb (fun w hw=>ai.mem hw)
 obtain rfl:i=zs.length:=by omega
 rw[ark,aq5 (by rw[nG];omega)]at bB;subst bB;refine Gc ?_;refine Sx nX qB fun Gy=>aY ?_;refine bT (X:=Nat) (fun zz=>[(45, .int .i64 (zz:Nat)),(5,(⟨false,lH,0,c.blocks.xs.length -2,c.blocks.xs.length -2,none⟩:Sv).val),(8, .map (some Gy)),(2, .pointer (some ⟨b2,0,none⟩)),(43,l.sv.val),(44, .int .i64 (l.xs.length:Nat))]) (fun zz=>[omap Tryz.prog 3 nX qB Gy (kj (aw l.xs) (aw (l.xs.take zz)).length),own bG 4 ⟨false,lH,0,c.blocks.xs.length -2,c.blocks.xs.length -2,none⟩ (jV (cv c) (aw l.xs) (aw (l.xs.take zz)).length),ar b2 (aS c) 59]) (fun zz=>zz<=l.xs.length) (fun zz=>l.xs.length -zz) 0 (arn _) sb (fun w hw=>by
  have e0:(aw (l.xs.take 0)).length=0:=by simp[aw]
  simp only[e0];rw[←QB];exact ai.mem hw) ?_
 rintro a ha1;refine al ?_;refine Gb (fun h1=>?_) fun h1=>?_
 ·
  obtain⟨x,hx⟩:=get_some (xs:=l.xs) (i:=a) oM;have SG:Mb x l:=⟨List.mem_of_getElem? hx⟩;have eo:=(hl.2 x SG.h).1.bd;refine Gc ?_;refine ag (ba rfl rfl a rfl oM) (ag (bL (j:=0) rfl a hx rfl (by decide)) ?_);have anQ:Mb x _:=⟨List.mem_of_getElem? hx⟩;refine aY ?_;refine bT (X:=Nat) (fun zz=>[(51, .int .i64 (zz:Nat)),(5,(⟨false,lH,0,c.blocks.xs.length -2,c.blocks.xs.length -2,none⟩:Sv).val),(8, .map (some Gy)),(2, .pointer (some ⟨b2,0,none⟩)),(43,l.sv.val),(44, .int .i64 (l.xs.length:Nat)),(45, .int .i64 (a:Nat)),(49,x.sv.val),(50, .int .i64 (x.xs.length:Nat))]) (fun zz=>[omap Tryz.prog 3 nX qB Gy (kj (aw l.xs) ((aw (l.xs.take a)).length+zz)),own bG 4 ⟨false,lH,0,c.blocks.xs.length -2,c.blocks.xs.length -2,none⟩ (jV (cv c) (aw l.xs) ((aw (l.xs.take a)).length+zz)),ar b2 (aS c) 59]) (fun zz=>zz<=x.xs.length) (fun zz=>x.xs.length -zz) 0 (arn _) sb (fun w hw=>ai.mem hw) ?_;rintro j jn;refine al ?_;refine Gb (fun h2=>?_) fun h2=>?_
  ·
   obtain⟨y,hy⟩:=get_some (xs:=x.xs) (i:=j) oM;have AM:=aaT hx hy;have KX:=iG y (anc AM);have oW:=pI AM;have wW:=KW (n:=y) oM;refine Gc ?_;refine ag (ba rfl rfl j rfl oM) (ag (bL (j:=0) rfl j hy rfl (by decide)) (au ?_));refine ag (KF (df:=nX) (eH:=qB) (f:=kj (aw l.xs) ((aw (l.xs.take a)).length+j)) (v:=y) (z:=()) rfl rfl wW) (Gs ?_);refine ag (aK (v:= .agg #[]) rfl rfl) (ag (aK (v:= .bool ((kj (aw l.xs) ((aw (l.xs.take a)).length+j) y).isSome)) rfl rfl) (bt fun j7=>ik ?_));refine Gb (fun h3=>?_) fun h3=>?_
   ·
    have tN:mX (aw l.xs) ((aw (l.xs.take a)).length+j)=false:=by
     rw[mX,oW];rw[Cx]at h3;rcases h3 with h|h
     ·
      simp[h]
     simp only[decide_eq_true_eq]at h;simp[h.2]
    have hsk:kj (aw l.xs) (((aw (l.xs.take a)).length+j)+1)=kj (aw l.xs) ((aw (l.xs.take a)).length+j):=by
     rw[Cx]at h3;rcases h3 with h|h
     ·
      exact QC (h▸AM)
     exact aaR AM (by simpa using h)
    refine al ?_;refine Gi ?_;exact bn (x:=(j)) (j+1) oF oF sb (fun w hw=>by
     rw[←ast,hsk,aaQ tN];exact ai.mem hw)
   have nr:y≠0:=h3.1;obtain⟨b1,b2,b3,b4⟩:=KX.resolve_left nr;change 2<=((y -1)/c.pages)at b3;change((y -1)/c.pages)<((iU c.blocks.xs).length:Int)at b4;rw[dP]at b4;have tN:mX (aw l.xs) ((aw (l.xs.take a)).length+j)=true:=by
    rw[mX,oW];have h9:=h3.2;rw[Cx]at h9;simp only[decide_eq_false_iff_not]at h9;simp only[alM,decide_eq_true_eq,arX,atH,decide_eq_false_iff_not];exact⟨nr,fun hm=>h9 ⟨nr,hm⟩⟩
   have fg:=QD AM nr;have wb:=Am (cv c) (aw l.xs) ((aw (l.xs.take a)).length+j);rw[oT]at wb;obtain⟨z,hz⟩:=get_some (xs:=jV (cv c) (aw l.xs) ((aw (l.xs.take a)).length+j)) (i:=(((y -1)/c.pages) -2).toNat) oM;have qD:=aaS tN (i:=(((y -1)/c.pages) -2).toNat) (by rw[oW];show((y -1)/c.pages)=_;omega) hz;have qA:=aaV hz;have bS:=(ad2.1 AM).1;refine al ?_;refine ag (da (v:= .agg #[]) rfl (fun w=>by kernel_rfl)) (KG (df:=nX) (eH:=qB) (v:=y) (u:=()) rfl rfl rfl wW (aY ?_));refine ag (mj rfl rfl oM oM) (Gs ?_);refine ag (ba rfl rfl ((((y -1)/c.pages) -2).toNat) oM oM) (ag (aP rfl rfl) (ag (bL (j:=0) rfl ((((y -1)/c.pages) -2).toNat) hz rfl (by decide)) (Gs ?_)));refine ag (ba rfl rfl ((((y -1)/c.pages) -2).toNat) oM oM) (ag (aP rfl rfl) (kz (s:=⟨false,lH,0,c.blocks.xs.length -2,c.blocks.xs.length -2,none⟩) (n:=1) (k:=(((y -1)/c.pages) -2).toNat) (j:=0) (a:=z) (a':={z with live:=z.live+1}) (xs:=(jV (cv c) (aw l.xs) ((aw (l.xs.take a)).length+j))) (enc:=bG) (c:=4) (v:= .int .i64 (z.live+1)) oK rfl rfl rfl hz (by simp[Value.cells,Value.oneCell']) (by rfl) (by decide) (by rfl) (al ?_)))
   refine Gi ?_;exact bn (x:=(j)) (j+1) oF oF sb (fun w hw=>by
    rw[←ast,←fg,qD];exact ai.mem hw)
  obtain rfl:j=x.xs.length:=by omega
  refine al ?_;refine Gi ?_;exact bn (x:=(a)) (a+1) oF oF sb (fun w hw=>by
   rw[QM hx,af0];exact ai.mem hw)
 obtain rfl:a=l.xs.length:=by omega
 rw[ark];refine au ?_;refine Gr fun w1 hw=>?_;exact⟨⟨false,lH,0,c.blocks.xs.length -2,c.blocks.xs.length -2,none⟩,rfl,trivial,by rw[iW];exact ai.mem hw⟩)⟩
end Go.Proofs.YtkggjjnhnjjokaaGreatDoor
namespace Go.ax
open Go.RowKit
section
variable {P:Program} {N:ct} {w0:World} {env:Env} {L:List aj} {d:Option Tmp} {ty:TypeId} {ps:String} {af:Array Edge} {gd:Option (Nat×Bool)}
class mD(w0:World)(L:List aj)(b:Nat)(cs:outParam (Array Value))(T:outParam TypeId):Prop where
 h: ∀w,Mem w0 L w->w.heap[b]? =some (.cells cs T (0,0))
class ru(w0:World)(b:Nat)(cs:outParam (Array Value))(T:outParam TypeId):Prop where
 h:w0.heap[b]? =some (.cells cs T (0,0))
instance (priority:=high) mD.has {b i:Nat}{cs:Array Value}{T:TypeId}[q:Has L b cs T i]:mD w0 L b cs T:=⟨fun w hw=>hw.block q.h⟩
instance mD.AN{b:Nat}{cs:Array Value}{T:TypeId}[q:ru w0 b cs T]:mD w0 L b cs T:=⟨fun w hw=>by
 have bb:b<w0.heap.size:=by
  rcases aqX b w0.heap.size with h|h
  ·
   exact h
  have:=q.h;simp[ar7 h]at this
 rw[hw.below.block b bb];exact q.h⟩
theorem mD.cell{b:Nat}{cs:Array Value}{T:TypeId}(q:mD w0 L b cs T){w:World}(hw:Mem w0 L w)(o:Nat):w.cell? ⟨b,o,none⟩=cs[o]? :=by
 simp[World.cell?,q.h w hw]
theorem nY{t:TypeId}{x:Operand}{b o:Nat}{cs:Array Value}{T:TypeId}{v:Value}(hx:ev env x=some (.pointer (some ⟨b,o,none⟩)))[ht:fK P t][hi:mD w0 L b cs T][hc:cg cs o v]:
  Ry P N w0 env L ⟨d, .load t x,ty,ps,af,gd⟩ v:=ze ht hx fun w hw=>by rw[hi.cell hw];exact hc.h
theorem acL{t:TypeId}{x:Operand}{b o n:Nat}{cs sub:Array Value}{T:TypeId}(hx:ev env x=some (.pointer (some ⟨b,o,none⟩)))[ht:fE P t n][hi:mD w0 L b cs T][hs:nk cs o n sub]:
  Ry P N w0 env L ⟨d, .load t x,ty,ps,af,gd⟩ (.agg sub):=BD ht hx hs.size fun w hw j hj=>by rw[Addr.gN,hi.cell hw];exact hs.h j hj
end
section
variable {w0:World} {L:List aj}
theorem AO{w0 w:World}{L R1 R2 R3:List aj}{e1 e2 e3:aj}{i j k:Nat}(h1:L[i]? =some e1)(d1:L.eraseIdx i=R1)(h2:R1[j]? =some e2)(d2:R1.eraseIdx j=R2)(h3:R2[k]? =some e3)(d3:R2.eraseIdx k=R3)(h:Mem w0 L w):Mem w0 (e1::e2::e3::R3) w:=by
 subst d1;subst d2;subst d3;exact h.perm ((oq h1).trans (((oq h2).trans ((oq h3).cons _)).cons _))
theorem acM{w0 w:World}{L R1 R2 R3 R4:List aj}{e1 e2 e3 e4:aj}{i j k l:Nat}(h1:L[i]? =some e1)(d1:L.eraseIdx i=R1)(h2:R1[j]? =some e2)(d2:R1.eraseIdx j=R2)(h3:R2[k]? =some e3)(d3:R2.eraseIdx k=R3)(h4:R3[l]? =some e4)(d4:R3.eraseIdx l=R4)(h:Mem w0 L w):Mem w0 (e1::e2::e3::e4::R4) w:=by
 subst d1;subst d2;subst d3;subst d4;exact h.perm ((oq h1).trans (((oq h2).trans (((oq h3).trans ((oq h4).cons _)).cons _)).cons _))
end
variable {w0:World}{L:List aj}
instance (priority:=low) Hd.tail{e:aj}{s:Sv}{α:Type}{enc:α->Array Value}{c:Nat}{xs:List α}[q:Hd w0 L s enc c xs]:Hd w0 (e::L) s enc c xs:=⟨fun w hw=>q.h w (hw.sub (arQ _ _))⟩
instance (priority:=low) aT.tail{e:aj}{τ:Type}[Deep τ]{a:τ}[q:aT w0 L a]:aT w0 (e::L) a:=⟨fun w hw=>q.h w (hw.sub (arQ _ _))⟩
theorem acN{P:Program}{N:ct}{env:Env}{α:Type}{enc:α->Array Value}{c n:Nat}{t e:TypeId}{cE:Nat}{z:Value}{x y:Operand}{d:Option Tmp}{ty:TypeId}{ps:String}{af:Array Edge}{gd:Option (Nat×Bool)}{k k':IntKind}{ix iy:Int}[he:bm enc c][ht:fa P t e c cE][hz:eI P e z](x0:α)(h0:enc x0=z.cells)(hx:ev env x=some (.int k ix))(hy:ev env y=some (.int k' iy))(ex:ix=(n:Int))(ey:iy=(n:Int))(hb:cE*n<=281474976710656)(ju:n<=140737488355328):
  ∀a,dh N env a->uF P ⟨d, .makeSlice t x y,ty,ps,af,gd⟩ a.eval (wh enc c n (List.replicate n x0)):=fun a ha w0 w L hw=>by
 subst ex ey;obtain⟨w',h1,h2⟩:=Im ht hz (k:=k) (k':=k') (n:=n) x0 h0 (aqY _) hb ju w;exact⟨w.heap.size,w',by simp only[execOp,ha.ev hx,ha.ev hy,Sem.run_bind,h1,Result.andThen,Sem.run_pure],hw.call h2⟩
def tO(f:FuncId):Array Value:= #[.func (.func f) #[] #[]]
instance:bm tO 1:=⟨fun _=>rfl,fun _=>by simp[tO,Value.oneCell']⟩
instance (f:FuncId):cg (tO f) 0 (.func (.func f) #[] #[]):=⟨rfl⟩
class sE(P:Program)(w0:World)(L:List aj)(f:FuncId)(lE:Array Value){α:outParam Type}(enc:outParam (α->Array Value))(R:outParam (α->Bool)):Prop where
 fn:aI P f
 h: ∀w,Mem w0 L w-> ∀x,Calls P f ((Value.agg (enc x)::lE.toList).toArray) w fun e w'=>e= .returned (.bool (R x))/\Mem w [] w'
theorem sE.at{P:Program}{w0:World}{L:List aj}{f:FuncId}{lE:Array Value}{α:Type}{enc:α->Array Value}{R:α->Bool}(q:sE P w0 L f lE enc R){w:World}(hw:Mem w0 L w):sE P w [] f lE enc R:=
 ⟨q.fn,fun w1 h1 x=>q.h w1 (by simpa using hw.call h1) x⟩
end Go.ax
namespace Go.Proofs.YtkggjjnhnjjokaaGreatDoor
open Go.ax Go.Kb Go.RowKit
instance:eI Tryz.prog 432 (.agg (fF aaz)):=⟨by kernel_rfl⟩
theorem KY(x:az)(p:Int)(w:World):(Instr.build 432 #[(0, .agg (bG x)),(1, .int .i64 p)]).run Tryz.prog w= .ok (.agg (fF ⟨x,p⟩)) w:=by
 obtain⟨a,b,c,d⟩:=x;unfold fF bG;kernel_rfl
variable {w0:World}{L:List aj}
instance anR{a:Int}:cd Tryz.prog 350 w0 L [.int .i64 a] (.bool false) (True):=⟨fun aG w hw=>by
 refine cC Tryz.func350 rfl Tryz.ntmps350 rfl ?_;refine fx ?_;refine Gr fun w1 hw=>?_;exact⟨congrArg (fun b=>Ending.returned (Value.bool b)) ((by simp)),ai.mem hw⟩⟩
instance anS{a:Int}{b:Int}:cd Tryz.prog 349 w0 L [.int .i64 a, .int .i64 b] (.int .i64 (yb a b)) (True):=⟨fun aG w hw=>by
 refine cQ Tryz.func349 rfl Tryz.ntmps349 rfl ?_;refine Jb ?_;refine je rfl (fun h0=>?_) (fun h0=>?_)
 ·
  exfalso;simp at h0
 replace h0:=bz h0;refine al ?_;refine je rfl (fun h2=>?_) (fun h2=>?_)
 ·
  exfalso;simp at h2
 replace h2:=bz h2;refine aO ?_;refine Gb (fun h3=>?_) fun h3=>?_
 ·
  refine al ?_;refine Gr fun w1 hw=>?_;exact Gf ((by rw[yb,if_pos oM])) hw
 refine aO ?_;refine Gb (fun h4=>?_) fun h4=>?_
 ·
  refine al ?_;refine Gr fun w1 hw=>?_;exact Gf ((by rw[yb,if_neg oM,if_pos oM])) hw
 refine al ?_;refine Gr fun w1 hw=>?_;exact⟨congrArg (fun b=>Ending.returned (Value.int .i64 b)) ((by rw[yb,if_neg oM,if_neg oM])),ai.mem hw⟩⟩
theorem SH(w:World)(b:ji):Calls Tryz.prog 335 #[.agg (fF b)] w fun e w'=>e= .returned (.bool (mw b.pages b.w))/\Mem w [] w':=by
 refine cC Tryz.func335 rfl Tryz.ntmps335 rfl ?_;refine Gc ?_;refine bY rfl fun b1=>fx ?_;refine gE rfl rfl rfl (fun hg=>(Ry.yl (aP (o':=1) (aE hg rfl) rfl))) (c6 ?_);refine Gr fun w1 hw=>?_;exact Ge (by simp only[mw,Bool.and_assoc]) hw
instance anT{b:ji}:cd Tryz.prog 335 w0 L [.agg (fF b)] (.bool (mw b.pages b.w)) (True):=⟨fun hp w hw=>SH w b⟩
theorem SI(w:World)(b:ji):Calls Tryz.prog 333 #[.agg (fF b)] w fun e w'=>e= .returned (.bool (lZ b.w))/\Mem w [] w':=by
 refine cC Tryz.func333 rfl Tryz.ntmps333 rfl ?_;refine Gc ?_;refine bY rfl fun b1=>fx ?_;refine gE rfl rfl rfl (fun hg=>(Ry.yl (aP (o':=0) (aE hg rfl) rfl))) (aO ?_);refine gE rfl rfl rfl (fun hg=>(Ry.yl (aP (o':=1) (aE hg rfl) rfl))) (aO ?_);refine Gr fun w1 hw=>?_;exact Ge (by simp only[lZ,Bool.and_assoc]) hw
instance anU{b:ji}:cd Tryz.prog 333 w0 L [.agg (fF b)] (.bool (lZ b.w)) (True):=⟨fun hp w hw=>SI w b⟩
theorem acO(w:World)(b:ji):Calls Tryz.prog 340 #[.agg (fF b)] w fun e w'=>e= .returned (.bool (yc b.pages b.w))/\Mem w [] w':=by
 refine cC Tryz.func340 rfl Tryz.ntmps340 rfl ?_;refine Gc ?_;refine bY rfl fun b1=>aY ?_;refine Gb (fun h0=>?_) fun h0=>?_
 ·
  refine c6 ?_;refine Gr fun w1 hw=>?_;exact Ge (by rw[yc,if_pos h0]) hw
 refine ik ?_;refine gE rfl rfl rfl (fun hg=>(Ry.yl (aP (o':=0) (aE hg rfl) rfl))) (aO ?_);refine gE rfl rfl rfl (fun hg=>(Ry.yl (aP (o':=0) (aE hg rfl) rfl))) (c6 ?_);refine Gr fun w1 hw=>?_;exact Ge (by rw[yc,if_neg (by rw[h0];simp)]) hw
theorem acP(w:World)(a:ji)(b:ji):Calls Tryz.prog 336 #[.agg (fF a), .agg (fF b)] w fun e w'=>e= .returned (.int .i64 (An a.w b.w))/\Mem w [] w':=by
 refine cQ Tryz.func336 rfl Tryz.ntmps336 rfl ?_;refine Gc ?_;refine bY rfl fun b2=>bY rfl fun b3=>pB ?_;refine Gr fun w1 hw=>?_;exact⟨rfl,ai.mem hw⟩
theorem acQ(w:World)(a:ji)(b:ji):Calls Tryz.prog 334 #[.agg (fF a), .agg (fF b)] w fun e w'=>e= .returned (.int .i64 (r9 a.w b.w))/\Mem w [] w':=by
 refine cQ Tryz.func334 rfl Tryz.ntmps334 rfl ?_;refine Gc ?_;refine bY rfl fun b2=>bY rfl fun b3=>pB ?_;refine Gr fun w1 hw=>?_;exact⟨rfl,ai.mem hw⟩
theorem acR(w:World)(a:ji)(b:ji):Calls Tryz.prog 342 #[.agg (fF a), .agg (fF b)] w fun e w'=>e= .returned (.int .i64 (JT a.w b.w))/\Mem w [] w':=by
 refine cQ Tryz.func342 rfl Tryz.ntmps342 rfl ?_;refine Gc ?_;refine bY rfl fun b2=>bY rfl fun b3=>pB ?_;refine Gr fun w1 hw=>?_;exact⟨rfl,ai.mem hw⟩
theorem acS(w:World)(a:ji)(b:ji):Calls Tryz.prog 341 #[.agg (fF a), .agg (fF b)] w fun e w'=>e= .returned (.int .i64 (Ao a.w b.w))/\Mem w [] w':=by
 refine cQ Tryz.func341 rfl Tryz.ntmps341 rfl ?_;refine Gc ?_;refine bY rfl fun b2=>bY rfl fun b3=>fx ?_;refine ag (Wi rfl rfl Tryz.underlying4) (ay ?_);refine Gb (fun h0=>?_) fun h0=>?_
 ·
  refine al ?_;refine Gr fun w1 hw=>?_;exact Gf ((by rw[Ao,if_pos (by simpa using h0)])) hw
 refine aY ?_;refine Gb (fun h1=>?_) fun h1=>?_
 ·
  refine al ?_;refine Gr fun w1 hw=>?_;exact Gf ((by rw[Ao,if_neg (by simpa using h0),if_pos h1])) hw
 refine al ?_;refine Gr fun w1 hw=>?_;exact Gf ((by rw[Ao,if_neg (by simpa using h0),if_neg (by rw[h1];simp)])) hw
instance anV{l:Sv}{ls:List az}{p:Int}[hl:di w0 L bG 4 l ls]:cd Tryz.prog 346 w0 L [l.val, .int .i64 p] (.bool (l5 ls p)) (True):=⟨fun aG w hw=>by
 have hl:=hl.h w hw;have qC:Gv w l bG 4 ls:=⟨hl⟩;have qu:cN=1099511627776:=rfl;refine cQ Tryz.func346 rfl Tryz.ntmps346 rfl ?_;refine YM ?_;refine Gb (fun h0=>?_) fun h0=>?_
 ·
  have hz:l5 ls p=false:=by
   cases hk:l5 ls p with
   |false=>rfl
   |true=>have g:=sa.1 hk;omega
  refine al ?_;refine Gr fun w1 hw=>?_;exact Ge (hz.symm) hw
 refine aO ?_;refine bT (X:=Nat) (fun zz=>[(25, .int .i64 (zz:Nat)),(1, .int .i64 p),(23,l.val),(24, .int .i64 (ls.length:Nat))]) (fun zz=>[]) (fun zz=>zz<=ls.length/\ ∀j x,j<zz->ls[j]? =Option.some x->wB p x=true) (fun zz=>ls.length -zz) 0 ⟨Nat.zero_le _,fun j x hj=>by first|omega|(simp only[];omega)⟩ sb (fun w hw=>ai.mem hw) ?_;rintro i ⟨bc,aH⟩;refine al ?_;refine Gb (fun h1=>?_) fun h1=>?_
 ·
  refine mo ?_;obtain⟨x,hx⟩:=get_some (xs:=ls) (i:=i) oM;refine ag (ba rfl rfl i rfl oM) (ag (iK rfl i hx rfl) (bt fun b6=>Pf ?_));refine Gb (fun h2=>?_) fun h2=>?_
  ·
   have hz:l5 ls p=false:=by
    cases hk:l5 ls p with
    |false=>rfl
    |true=>
     have g:=rf.1 ((sa.1 hk).2.2.2.2 x (anc hx));omega
   refine al ?_;refine Gr fun w1 hw=>?_;exact Ge (hz.symm) hw
  have wF:wB p x=true:=rf.2 ⟨by omega,by omega,by omega,by omega,by omega⟩;refine al ?_;refine Gi ?_;exact bn (x:=(i)) (i+1) ⟨oF,fun j y hj hy=>if e:j=i then(by subst e;rw[hx]at hy;cases hy;exact wF)else aH j y oF hy⟩ oF sb (fun w hw=>ai.mem hw)
 obtain rfl:i=ls.length:=by omega
 have hz:l5 ls p=true:=sa.2 ⟨by omega,by omega,by omega,by omega,fun x hx=>by
  obtain⟨j,hj⟩:=arc hx;exact aH j x (ad2.1 hj).1 hj⟩
 refine al ?_;refine Gr fun w1 hw=>?_;exact⟨congrArg (fun b=>Ending.returned (Value.bool b)) (hz.symm),ai.mem hw⟩⟩
def iC(f:FuncId):az->az->Int:=if f=336 then An else if f=334 then r9 else if f=342 then JT else Ao
theorem acT{f:FuncId}(h:f∈[336,334,342,341]):aI Tryz.prog f/\ ∀(w:World) (a b:ji),Calls Tryz.prog f #[.agg (fF a), .agg (fF b)] w fun e w'=>e= .returned (.int .i64 (iC f a.w b.w))/\Mem w [] w':=by
 simp only[aqW,atf,or_false]at h;rcases h with rfl|rfl|rfl|rfl
 ·
  exact⟨inferInstance,fun w a b=>acP w a b⟩
 ·
  exact⟨inferInstance,fun w a b=>acQ w a b⟩
 ·
  exact⟨inferInstance,fun w a b=>acR w a b⟩
 exact⟨inferInstance,fun w a b=>acS w a b⟩
def mE(f:FuncId)(p:Int):az->Bool:=if f=335 then mw p else if f=333 then lZ else yc p
theorem acU{f:FuncId}(h:f∈[335,333,340]):aI Tryz.prog f/\ ∀(w:World) (b:ji),Calls Tryz.prog f #[.agg (fF b)] w fun e w'=>e= .returned (.bool (mE f b.pages b.w))/\Mem w [] w':=by
 simp only[aqW,atf,or_false]at h;rcases h with rfl|rfl|rfl
 ·
  exact⟨inferInstance,fun w b=>SH w b⟩
 ·
  exact⟨inferInstance,fun w b=>SI w b⟩
 exact⟨inferInstance,fun w b=>acO w b⟩
instance anW{a:ji}{b:ji}{o:Sv}{os:List FuncId}[ho:di w0 L tO 1 o os]:cd Tryz.prog 348 w0 L [.agg (fF a), .agg (fF b),o.val] (.bool (tv a.w b.w (os.map iC))) (∀f∈os,f∈[336,334,342,341]):=⟨fun aG w hw=>by
 have ho:=ho.h w hw;have gho:Gv w o tO 1 os:=⟨ho⟩;have jz:=ho.bd;refine wi Tryz.func348 rfl Tryz.ntmps348 rfl ?_;refine Gc ?_;refine bY rfl fun b3=>bY rfl fun b4=>aY ?_;refine bT (X:=Nat) (fun zz=>[(12, .int .i64 (zz:Nat)),(3, .pointer (some ⟨b3,0,none⟩)),(4, .pointer (some ⟨b4,0,none⟩)),(10,o.val),(11, .int .i64 (os.length:Nat))]) (fun zz=>[ar b4 (fF b) 432,ar b3 (fF a) 432]) (fun zz=>zz<=os.length/\tv a.w b.w (os.map iC)=tv a.w b.w ((os.drop zz).map iC)) (fun zz=>os.length -zz) 0 ⟨Nat.zero_le _,rfl⟩ sb (fun w hw=>ai.mem hw) ?_;rintro i ⟨bc,aH⟩;refine al ?_;refine Gb (fun h0=>?_) fun h0=>?_
 ·
  obtain⟨f,hf⟩:=get_some (xs:=os) (i:=i) oM;obtain⟨isf,hfc⟩:=acT (aG f (anc hf));have bu:tv a.w b.w ((os.drop i).map iC)=if iC f a.w b.w≠0 then decide (iC f a.w b.w<0)else tv a.w b.w ((os.drop (i+1)).map iC):=by
   rw[drop_at hf,arh,tv]
  refine Gc ?_;refine ag (ba rfl rfl i rfl oM) (ag (bL (j:=0) rfl i hf rfl (by decide)) (aO ?_));refine dR (Gp (f:=f) (vs:=[.agg (fF a), .agg (fF b)]) rfl rfl (fun w1 _=>hfc w1 a b)) (aO ?_);refine Gb (fun h1=>?_) fun h1=>?_
  ·
   have hz:tv a.w b.w (os.map iC)=decide (iC f a.w b.w<0):=by rw[aH,bu,if_pos h1]
   refine aO ?_;refine Gr fun w1 hw=>?_;exact Ge (hz.symm) hw
  rw[if_neg oM]at bu;refine al ?_;refine Gi ?_;exact bn (x:=(i)) (i+1) ⟨oF,by rw[aH,bu]⟩ oF sb (fun w hw=>ai.mem hw)
 obtain rfl:i=os.length:=by omega
 have hz:tv a.w b.w (os.map iC)=false:=by rw[aH,atg];rfl
 refine al ?_;refine Gr fun w1 hw=>?_;exact⟨congrArg (fun b=>Ending.returned (Value.bool b)) (hz.symm),ai.mem hw⟩⟩
instance anX{r:FuncId}{l:Sv}{ls:List az}{p:Int}{o:Sv}{os:List FuncId}[hl:di w0 L bG 4 l ls][ho:di w0 L tO 1 o os]:cd Tryz.prog 332 w0 L [l.val, .int .i64 p, .func (.func r) #[] #[],o.val] (.tuple #[.int .i64 ((fo ls p (mE r p) (os.map iC)).1), .bool ((fo ls p (mE r p) (os.map iC)).2)]) (r∈[335,333,340]/\ ∀f∈os,f∈[336,334,342,341]):=⟨fun aG w hw=>by
 have hl:=hl.h w hw;have ho:=ho.h w hw;have qC:Gv w l bG 4 ls:=⟨hl⟩;have gho:Gv w o tO 1 os:=⟨ho⟩;obtain⟨iM,ho2⟩:=aG;obtain⟨isr,hrc⟩:=acU iM;have jz:=hl.bd;refine Je Tryz.func332 rfl Tryz.ntmps332 rfl ?_;refine ik ?_;refine Gb (fun h0=>?_) fun h0=>?_
 ·
  have hE:fo ls p (mE r p) (os.map iC)=(0,false):=if_neg (by rw[h0];simp);refine au ?_;refine Gr fun w1 hw=>?_;exact⟨by rw[hE],ai.mem hw⟩
 have hE:fo ls p (mE r p) (os.map iC)=ir ls (mE r p) (os.map iC) ls.length:=if_pos h0;refine fx ?_;refine bT (X:=Nat) (fun zz=>[(21, .int .i64 (zz:Nat)),(10, .int .i64 ((ir ls (mE r p) (os.map iC) zz).1)),(11, .bool ((ir ls (mE r p) (os.map iC) zz).2)),(0,l.val),(1, .int .i64 p),(2, .func (.func r) #[] #[]),(3,o.val),(19,l.val),(20, .int .i64 (ls.length:Nat))]) (fun zz=>[]) (fun zz=>zz<=ls.length) (fun zz=>ls.length -zz) 0 (arn _) sb (fun w hw=>ai.mem hw) ?_;rintro i bc;refine al ?_;refine Gb (fun h1=>?_) fun h1=>?_
 ·
  obtain⟨x,hx⟩:=get_some (xs:=ls) (i:=i) oM;have KZ:ls.getD i dW=x:=by simp[List.getD,hx]
  have hle:=JU ls (mE r p) (os.map iC) i;refine ay ?_;refine ag (ba rfl rfl i rfl oM) (ag (iK rfl i hx rfl) (bt fun j7=>aO ?_));refine ag (da (v:= .agg (fF ⟨x,p⟩)) rfl (KY x p)) (bt fun yu=>au ?_);refine dR (Gp (f:=r) (vs:=[.agg (fF ⟨x,p⟩)]) rfl rfl (fun w1 _=>hrc w1 ⟨x,p⟩)) (ay ?_);refine Gb (fun h2=>?_) fun h2=>?_
  ·
   have bu:(ir ls (mE r p) (os.map iC) (i+1))=(ir ls (mE r p) (os.map iC) i):=by rw[ir,Ap,KZ,if_neg (by rw[h2];simp)]
   refine al ?_;refine Gi ?_;exact bn (x:=(i)) (i+1) oF oF (Sub.cons rfl (Sub.cons (look_eq rfl (by rw[bu])) (Sub.cons (look_eq rfl (by rw[bu])) sb))) (fun w hw=>ai.mem hw)
  refine Gc ?_;refine gO oK oK (al ?_);refine fL rfl rfl rfl (fun hg=>(Ry.yl (jO rfl))) (ay ?_);refine fL rfl rfl rfl (fun hg=>(Ry.yl (ba (aE hg rfl) (aE hg rfl) ((ir ls (mE r p) (os.map iC) i).1.toNat) oM (by have:=hle.1;have:=hle.2.1;have:=(ad2.1 hx).1;omega)))) ?_;refine fL rfl rfl rfl (fun hg=>(Ry.yl (iK (aE hg rfl) ((ir ls (mE r p) (os.map iC) i).1.toNat) (pt (d:=dW) (by have:=hle.1;have:=hle.2.1;have:=(ad2.1 hx).1;omega)) rfl))) ?_;refine Gh ?_;refine fL rfl rfl rfl (fun hg=>(Ry.yl (da (v:= .agg (fF ⟨(ls.getD (ir ls (mE r p) (os.map iC) i).1.toNat dW),p⟩)) (Nn (aE hg rfl) (Nn (aE hg rfl) Wj)) (KY (ls.getD (ir ls (mE r p) (os.map iC) i).1.toNat dW) p)))) (Gh ?_);refine fL rfl rfl rfl (fun hg=>cj (eC (aE hg rfl) (eC (aE hg rfl) (eC (aE hg rfl) iI))) ho2) (ay ?_);refine Gb (fun h3=>?_) fun h3=>?_
  ·
   have bu:(ir ls (mE r p) (os.map iC) (i+1))=((i:Int),true):=by
    rw[ir,Ap,KZ,if_pos ⟨h2,h3⟩]
   refine Gi ?_;refine aY ?_;refine Gi ?_;exact bn (x:=(i)) (i+1) oF oF (Sub.cons rfl (Sub.cons (look_eq rfl (by rw[bu])) (Sub.cons (look_eq rfl (by rw[bu])) sb))) (fun w hw=>ai.mem hw)
  have bu:(ir ls (mE r p) (os.map iC) (i+1))=(ir ls (mE r p) (os.map iC) i):=by
   rw[ir,Ap,KZ,if_neg];rintro⟨_,g⟩;rcases g with g|g
   ·
    exact absurd (h3.1.symm.trans g) (by simp)
   exact absurd (h3.2.symm.trans g) (by simp)
  refine al ?_;refine Gi ?_;exact bn (x:=(i)) (i+1) oF oF (Sub.cons rfl (Sub.cons (look_eq rfl (by rw[bu])) (Sub.cons (look_eq rfl (by rw[bu])) sb))) (fun w hw=>ai.mem hw)
 obtain rfl:i=ls.length:=by omega
 refine aY ?_;refine Gr fun w1 hw=>?_;exact⟨by rw[hE],ai.mem hw⟩⟩
instance anY{l:Sv}{ls:List az}{p:Int}[hl:di w0 L bG 4 l ls]:cd Tryz.prog 313 w0 L [l.val, .int .i64 p] (.tuple #[.int .i64 ((fq ls p).1), .bool ((fq ls p).2)]) (True):=⟨fun aG w hw=>by
 have hl:=hl.h w hw;have qC:Gv w l bG 4 ls:=⟨hl⟩;refine cQ Tryz.func313 rfl Tryz.ntmps313 rfl ?_;refine aY ?_;refine lO (enc:=tO) (vals:=[.func (.func 336) #[] #[], .func (.func 334) #[] #[]]) [336,334] rfl rfl rfl (by decide) (by decide) fun b8=>?_;refine dR (cj rfl (by decide)) (ag (aK rfl rfl) (ag (aK rfl rfl) (al ?_)));refine Gr fun w1 hw=>?_;exact⟨rfl,ai.mem hw⟩⟩
instance anZ{l:Sv}{ls:List az}{p:Int}[hl:di w0 L bG 4 l ls]:cd Tryz.prog 310 w0 L [l.val, .int .i64 p] (.tuple #[.int .i64 ((fA ls p).1), .bool ((fA ls p).2)]) (True):=⟨fun aG w hw=>by
 have hl:=hl.h w hw;have qC:Gv w l bG 4 ls:=⟨hl⟩;refine cQ Tryz.func310 rfl Tryz.ntmps310 rfl ?_;refine aY ?_;refine lO (enc:=tO) (vals:=[.func (.func 334) #[] #[]]) [334] rfl rfl rfl (by decide) (by decide) fun b8=>?_;refine dR (cj rfl (by decide)) (ag (aK rfl rfl) (ag (aK rfl rfl) (al ?_)));refine Gr fun w1 hw=>?_;exact⟨rfl,ai.mem hw⟩⟩
instance an0{l:Sv}{ls:List az}{p:Int}[hl:di w0 L bG 4 l ls]:cd Tryz.prog 327 w0 L [l.val, .int .i64 p] (.tuple #[.int .i64 ((u5 ls p).1), .bool ((u5 ls p).2)]) (True):=⟨fun aG w hw=>by
 have hl:=hl.h w hw;have qC:Gv w l bG 4 ls:=⟨hl⟩;refine cQ Tryz.func327 rfl Tryz.ntmps327 rfl ?_;refine aY ?_;refine lO (enc:=tO) (vals:=[.func (.func 341) #[] #[], .func (.func 342) #[] #[], .func (.func 334) #[] #[]]) [341,342,334] rfl rfl rfl (by decide) (by decide) fun b8=>?_;refine dR (cj rfl (by decide)) (ag (aK rfl rfl) (ag (aK rfl rfl) (al ?_)));refine Gr fun w1 hw=>?_;exact⟨rfl,ai.mem hw⟩⟩
instance an1{l:Sv}{ls:List az}{p:Int}[hl:di w0 L bG 4 l ls]:cd Tryz.prog 330 w0 L [l.val, .int .i64 p] (.int .i64 (FH ls p)) (True):=⟨fun aG w hw=>by
 have hl:=hl.h w hw;have qC:Gv w l bG 4 ls:=⟨hl⟩;refine cQ Tryz.func330 rfl Tryz.ntmps330 rfl ?_;refine fx ?_;refine Gb (fun h0=>?_) fun h0=>?_
 ·
  have hE:FH ls p=0:=if_neg (by rw[h0];simp);refine al ?_;refine Gr fun w1 hw=>?_;exact Gf (by rw[hE]) hw
 have hE:FH ls p=fH (ls.map (nO p)):=if_pos h0;obtain⟨k1,k2,k3,k4,k5⟩:=sa.1 h0;refine c6 ?_;refine bT (X:=Nat) (fun zz=>[(15, .int .i64 (zz:Nat)),(5, .int .i64 (fH ((ls.take zz).map (nO p)))),(1, .int .i64 p),(13,l.val),(14, .int .i64 (ls.length:Nat))]) (fun zz=>[]) (fun zz=>zz<=ls.length) (fun zz=>ls.length -zz) 0 (arn _) sb (fun w hw=>ai.mem hw) ?_;rintro i bc;refine al ?_;refine Gb (fun h1=>?_) fun h1=>?_
 ·
  obtain⟨x,hx⟩:=get_some (xs:=ls) (i:=i) oM;have wF:=rf.1 (k5 x (anc hx));have fg:(fH ((ls.take (i+1)).map (nO p)))=(fH ((ls.take i).map (nO p)))+nO p x:=by rw[aq0,hx,art,QO];simp[fH]
  have hsb:=QQ p (ls.take i) (fun x hx=>k5 x (asN hx)) oM;have nD:(ls.take i).length<=32:=by rw[aqT];omega
  have lF:((ls.take i).length:Int)*p<=512:=room_le nD oM oM;refine Gc ?_;refine ag (ba rfl rfl i rfl oM) (ag (iK rfl i hx rfl) (bt fun b7=>au ?_));refine ag (da (v:= .agg (fF ⟨x,p⟩)) rfl (KY x p)) (bt fun b8=>aY ?_);refine Gb (fun h2=>?_) fun h2=>?_
  ·
   have hr:nO p x=p:=if_pos h2;refine Gi ?_;refine c6 ?_;refine Gi ?_;exact bn (x:=(i)) (i+1) oF oF (Sub.cons rfl (Sub.cons (look_eq rfl (by rw[fg,hr])) sb)) (fun w hw=>ai.mem hw)
  refine aO ?_;refine Gb (fun h3=>?_) fun h3=>?_
  ·
   have hr:nO p x=p -x.used:=by rw[nO,if_neg (by rw[h2];simp),if_pos h3]
   refine Gi ?_;refine au ?_;refine ag (Ry.to (v':= .int .i64 x.used) (bW rfl) rfl) (aY ?_);refine Gi ?_;exact bn (x:=(i)) (i+1) oF oF (Sub.cons rfl (Sub.cons (look_eq rfl (by rw[fg,hr])) sb)) (fun w hw=>ai.mem hw)
  have hr:nO p x=0:=by rw[nO,if_neg (by rw[h2];simp),if_neg (by rw[h3];simp)]
  refine al ?_;refine Gi ?_;exact bn (x:=(i)) (i+1) oF oF (Sub.cons rfl (Sub.cons (look_eq rfl (by rw[fg,hr,Int.add_zero])) sb)) (fun w hw=>ai.mem hw)
 obtain rfl:i=ls.length:=by omega
 refine au ?_;refine Gr fun w1 hw=>?_;exact⟨congrArg (fun b=>Ending.returned (Value.int .i64 b)) (by rw[hE,ark]),ai.mem hw⟩⟩
instance an2{n:Nat}:bZ Tryz.prog 302 w0 L [.slice none 0 0, .int .i64 (n:Nat)] (Sv) (fun zz=>zz.val) (fun zz=>own (ca (τ:=UInt8)) 1 zz ([]:List (Sl UInt8))::L) (fun zz=>True) (n<=1000000000):=⟨fun aG w hw=>Gk (fun zz=>[own (ca (τ:=UInt8)) 1 zz ([]:List (Sl UInt8))]) hw (by
 refine cQ Tryz.func302 rfl Tryz.ntmps302 rfl ?_;refine aY ?_;refine Gb (fun h0=>?_) fun h0=>?_
 ·
  exfalso;omega
 refine al ?_;refine ag (E3 rfl) (Gs ?_);refine ag (xx rfl) (c6 ?_);refine Gb (fun h1=>?_) fun h1=>?_
 ·
  refine Gi ?_;refine ay ?_;refine ag (E3 rfl) (ag (Ry.to (v':= .slice none 0 0) (vP (s:=Sv.none) (h:=0) rfl rfl rfl Sv.BI (aqY _)) rfl) (Gs ?_));refine Pr (enc:=(ca (τ:=UInt8))) (k:=n) (⟨Sv.none,[]⟩:Sl UInt8) rfl rfl oM oM (by decide) rfl Tryz.underlying3 oM oM fun AK CS KM=>Gs ?_;refine ag (xx rfl) (ag (vP (s:=⟨false,AK,0,n,CS,none⟩) (h:=0) rfl rfl rfl ⟨(fun h=>by cases h),KM,by simp only;omega,fun _=>rfl⟩ (arn _)) (aO ?_));refine Gr fun w1 hw=>?_;refine⟨Sv.sub ⟨false,AK,0,n,CS,none⟩ 1 0 0,rfl,trivial,?_⟩;have ff:=Mem.Pq (i:=0) (k:=0) hw rfl (arn _);rw[arz]at ff;exact ff
 have hn:n=0:=by omega
 refine au ?_;refine Gr fun w1 hw=>?_;exact⟨Sv.none,rfl,trivial,(ai.mem hw:Mem w [] _).dH (ca (τ:=UInt8)) 1⟩)⟩
instance SJ{a:Sl (Sl (Sl UInt8))}[ha:aT w0 L a]:bZ Tryz.prog 258 w0 L [a.sv.val] (Sv) (fun zz=>zz.val) (fun zz=>own (ca (τ:=UInt8)) 1 zz (fG a.xs)::L) (fun zz=>True) ((fG a.xs).length<=1000000):=⟨fun aG w hw=>Gk (fun zz=>[own (ca (τ:=UInt8)) 1 zz (fG a.xs)]) hw (by
 have ha:=ha.h w hw;have KN:cH w a:=⟨ha⟩;have ue:=ha.1.bd;have eO:=aaK a.xs;refine cC Tryz.func258 rfl Tryz.ntmps258 rfl ?_;refine ik ?_;refine bT (X:=Nat) (fun zz=>[(11, .int .i64 (zz:Nat)),(3, .int .i64 ((fG (a.xs.take zz)).length:Nat)),(0,a.sv.val),(9,a.sv.val),(10, .int .i64 (a.xs.length:Nat))]) (fun zz=>[]) (fun zz=>zz<=a.xs.length) (fun zz=>a.xs.length -zz) 0 (arn _) sb (fun w hw=>ai.mem hw) ?_;rintro i hi;have wg:=eO i;have lg:=eO (i+1);refine al ?_;refine Gb (fun h0=>?_) fun h0=>?_
 ·
  refine mo ?_;obtain⟨x,hx⟩:=get_some (xs:=a.xs) (i:=i) oM;refine ag (ba rfl rfl i rfl oM) (ag (bL (j:=0) rfl i hx rfl (by decide)) ?_);have hfx:(fG (a.xs.take (i+1))).length=(fG (a.xs.take i)).length+x.xs.length:=by rw[FG hx,af0]
  have Gw:Mb x _:=⟨List.mem_of_getElem? hx⟩;refine pB ?_;refine Gb (fun h1=>?_) fun h1=>?_
  ·
   exfalso;omega
  refine al ?_;refine Gi ?_;exact bn (x:=(i)) (i+1) oF oF (Sub.cons rfl (Sub.cons (look_eq rfl (by rw[FG hx,af0];simp)) sb)) (fun w hw=>ai.mem hw)
 obtain rfl:i=a.xs.length:=by omega
 have nt:=eO a.xs.length;refine ay ?_;refine bg rfl oM fun wT KO=>aY ?_;refine bT (X:=Nat×Sv) (fun zz=>[(27, .int .i64 (zz.1:Nat)),(6,zz.2.val),(25,a.sv.val),(26, .int .i64 (a.xs.length:Nat))]) (fun zz=>[own (ca (τ:=UInt8)) 1 zz.2 (fG (a.xs.take zz.1))]) (fun zz=>zz.1<=a.xs.length) (fun zz=>a.xs.length -zz.1) (0,wT) (Nat.zero_le _) sb (fun w hw=>(ai.mem hw:Mem _ [own (ca (τ:=UInt8)) 1 wT ([]:List (Sl UInt8))] _)) ?_;rintro⟨k,s1⟩ hk;dsimp only;simp only at hk;have wg:=eO k;have lg:=eO (k+1);refine al ?_;refine Gb (fun h2=>?_) fun h2=>?_
 ·
  refine mo ?_;obtain⟨y,hy⟩:=get_some (xs:=a.xs) (i:=k) oM;refine ag (ba rfl rfl k rfl oM) (ag (bL (j:=0) rfl k hy rfl (by decide)) ?_);have hfy:(fG (a.xs.take (k+1))).length=(fG (a.xs.take k)).length+y.xs.length:=by rw[FG hy,af0]
  have SB:Mb y _:=⟨List.mem_of_getElem? hy⟩;refine au ?_;refine lN (s:=s1) (enc:=(ca (τ:=UInt8))) (ys:=y.xs) rfl rfl (by decide) (fun w hw=>ke (s:=y.sv) Tryz.underlying178 (by decide) ((inferInstance:di _ _ (ca (τ:=UInt8)) 1 y.sv y.xs).h w hw)) oM oM fun KP acG acH=>?_;refine au ?_;refine Gi ?_;exact bn (x:=(k,s1)) (k+1,KP) (by simp only;omega) (by simp only;omega) sb (fun w hw=>by rw[FG hy];exact ai.mem hw)
 obtain rfl:k=a.xs.length:=by omega
 refine au ?_;refine Gr fun w1 hw=>?_;exact⟨s1,rfl,trivial,by rw[ark]at hw;exact ai.mem hw⟩)⟩
instance an3{x:Sv}{xs:List Int}{y:Sv}{ys:List Int}[hx:di w0 L bw 1 x xs][hy:di w0 L bw 1 y ys]:cd Tryz.prog 167 w0 L [x.val,y.val] (.bool (decide (xs=ys))) (True):=⟨fun aG w hw=>by
 have hx:=hx.h w hw;have hy:=hy.h w hw;have AL:Gv w x bw 1 xs:=⟨hx⟩;have SK:Gv w y bw 1 ys:=⟨hy⟩;have hbx:=hx.bd;refine cQ Tryz.func167 rfl Tryz.ntmps167 rfl ?_;refine ik ?_;refine Gb (fun h0=>?_) fun h0=>?_
 ·
  have hz:decide (xs=ys)=false:=decide_eq_false fun e=>h0 (by rw[e]);refine al ?_;refine Gr fun w1 hw=>?_;exact Ge (hz.symm) hw
 have oE:xs.length=ys.length:=by omega
 refine aO ?_;refine bT (X:=Nat) (fun zz=>[(13, .int .i64 (zz:Nat)),(0,x.val),(1,y.val),(12, .int .i64 (xs.length:Nat))]) (fun zz=>[]) (fun zz=>zz<=xs.length/\ ∀j,j<zz->xs[j]? =ys[j]?) (fun zz=>xs.length -zz) 0 ⟨Nat.zero_le _,fun j hj=>by first|omega|(simp only[];omega)⟩ sb (fun w hw=>ai.mem hw) ?_;rintro i ⟨bc,aH⟩;refine al ?_;refine Gb (fun h1=>?_) fun h1=>?_
 ·
  obtain⟨p,kD⟩:=get_some (xs:=xs) (i:=i) oM;obtain⟨q,vi⟩:=get_some (xs:=ys) (i:=i) oM;refine au ?_;refine gO oK oK (ay ?_);refine bH (ba rfl rfl i rfl oM) (bH (bL (j:=0) rfl i kD rfl (by decide)) (ay ?_));refine bH (ba rfl rfl i rfl oM) (bH (bL (j:=0) rfl i vi rfl (by decide)) (ay ?_));refine Gb (fun h2=>?_) fun h2=>?_
  ·
   have hz:decide (xs=ys)=false:=decide_eq_false fun e=>h2 (by rw[e]at kD;rw[kD]at vi;cases vi;rfl);refine al ?_;refine Gr fun w1 hw=>?_;exact Ge (hz.symm) hw
  refine al ?_;refine Gi ?_;exact bn (x:=(i)) (i+1) ⟨oF,fun j hj=>if e:j=i then(by subst e;rw[kD,vi,h2])else aH j oF⟩ oF sb (fun w hw=>ai.mem hw)
 obtain rfl:i=xs.length:=by omega
 have hz:decide (xs=ys)=true:=decide_eq_true (arS fun j=>by
  rcases aqX j xs.length with hj|hj
  ·
   exact aH j hj
  rw[aqV hj,aqV oM])
 refine al ?_;refine Gr fun w1 hw=>?_;exact⟨congrArg (fun b=>Ending.returned (Value.bool b)) (hz.symm),ai.mem hw⟩⟩
theorem acV(g:UInt64)(w:World):(Instr.build 314 #[(0, .int .u64 (g.toNat:Int))]).run Tryz.prog w= .ok (.agg (eP ⟨g,⟨Sv.none,[]⟩⟩)) w:=by
 unfold eP;kernel_rfl
instance an4{b:Sv}{bs:List UInt8}[hb:di w0 L aN 1 b bs]:bZ Tryz.prog 297 w0 L [b.val] (dy) (fun zz=> .tuple #[.agg (eP zz), .int .i64 ((bC bs).2)]) (fun zz=>own bw 1 zz.at_.sv zz.at_.xs::L) (fun zz=>dE zz=(bC bs).1) (True):=⟨fun aG w hw=>Gk (fun zz:dy=>[own bw 1 zz.at_.sv zz.at_.xs]) hw (by
 have hb:=hb.h w hw;have yt:Gv w b aN 1 bs:=⟨hb⟩;refine cC Tryz.func297 rfl Tryz.ntmps297 rfl ?_;refine Gc ?_;refine bt fun b2=>al ?_;refine bg rfl trivial fun dM yy=>?_;have SL:dM.kind=(cD bs).1.kind:=congrArg PV.kind yy;have K0:dM.id=(cD bs).1.id:=congrArg PV.id yy;have pP:dM.gen.toNat=(cD bs).1.gen:=congrArg PV.gen yy;have pC:dM.body.xs=(cD bs).1.body:=congrArg PV.body yy;have dP:=JN bs;rw[←pC]at dP;refine Gs ?_;refine ag (aK (v:= .agg (cX dM)) rfl rfl) (ag (aK (v:= .int .i64 ((cD bs).2)) rfl rfl) (bt fun b4=>aY ?_));refine Gb (fun h0=>?_) fun h0=>?_
 ·
  have hE:bC bs=(gY,(cD bs).2):=by rw[bC,if_pos h0]
  refine Gc ?_;refine ag (da (v:= .agg (eP lU)) rfl (fun w=>by kernel_rfl)) (au ?_);refine Gr fun w1 hw=>?_;exact⟨lU,by rw[hE],by rw[hE];rfl,Mem.dH bw 1 (ai.mem hw:Mem w [] _)⟩
 refine aO ?_;refine Gb (fun h1=>?_) fun h1=>?_
 ·
  have hE:bC bs=(gY,6):=by rw[bC,if_neg oM,if_pos oM]
  refine Gc ?_;refine ag (da (v:= .agg (eP lU)) rfl (fun w=>by kernel_rfl)) (al ?_);refine Gr fun w1 hw=>?_;exact⟨lU,by rw[hE],by rw[hE];rfl,Mem.dH bw 1 (ai.mem hw:Mem w [] _)⟩
 refine au ?_;refine ag (mj rfl rfl oM oM) (ik ?_);refine bP rfl rfl rfl (fun hg=>(Ry.yl (zx (p:=dM.body.xs.length) (q:=2) (aE hg rfl) rfl rfl rfl (by simp only[Z0,Z1,Z2,Z3,Z4,Z5,Z6,Z7,Z8,Z9]at hg;omega)))) (aY ?_);refine bP rfl rfl rfl (fun hg=>(Ry.yl (zk (aE hg rfl) rfl (by simp only[Z0,Z1,Z2,Z3,Z4,Z5,Z6,Z7,Z8,Z9]at hg;omega)))) (bP rfl rfl rfl (fun hg=>(Ry.yl (vL rfl (aE hg rfl)))) (al ?_));refine Gb (fun h2=>?_) fun h2=>?_
 ·
  have kN:uY (cD bs).1=false:=by
   cases hk:uY (cD bs).1 with
   |false=>rfl
   |true=>
    simp only[uY,alM,decide_eq_true_eq,←SL,←K0,←pC]at hk;omega
  have hE:bC bs=(gY,2):=by rw[bC,if_neg oM,if_neg oM,if_pos kN]
  refine Gc ?_;refine ag (da (v:= .agg (eP lU)) rfl (fun w=>by kernel_rfl)) (al ?_);refine Gr fun w1 hw=>?_;exact⟨lU,by rw[hE],by rw[hE];rfl,Mem.dH bw 1 (ai.mem hw:Mem w [] _)⟩
 have kN:uY (cD bs).1=true:=by
  simp only[uY,alM,decide_eq_true_eq,←SL,←K0,←pC];omega
 have hE:bC bs=(⟨dM.gen.toNat,pH dM.body.xs⟩,0):=by rw[bC,if_neg oM,if_neg oM,if_neg (by rw[kN];simp),pP,pC]
 have sF:=FE dM.body.xs;refine al ?_;refine ag (da (v:= .agg (eP ⟨dM.gen,⟨Sv.none,[]⟩⟩)) rfl (acV dM.gen)) (bt fun b7=>aO ?_);refine bT (X:=Nat×Sv) (fun zz=>[(49, .int .i64 (zz.1:Nat)),(7, .pointer (some ⟨b7,0,none⟩)),(2, .pointer (some ⟨b2,0,none⟩)),(4, .pointer (some ⟨b4,0,none⟩)),(48, .int .i64 ((dM.body.xs.length/2):Nat))]) (fun zz=>[ar b7 (eP ⟨dM.gen,⟨zz.2,(pH dM.body.xs).take zz.1⟩⟩) 314,own bw 1 zz.2 ((pH dM.body.xs).take zz.1),ar b4 (cX dM) 324,own aN 1 dM.body.sv dM.body.xs,ar b2 (eP lU) 314]) (fun zz=>zz.1<=dM.body.xs.length/2) (fun zz=>dM.body.xs.length/2 -zz.1) (0,Sv.none) (arn _) sb (fun w hw=>by
  simp only[arz];exact ai.mem (Mem.dH bw 1 hw)) ?_
 rintro⟨i,s1⟩ bc;dsimp only;simp only at bc;refine al ?_;refine Gb (fun h3=>?_) fun h3=>?_
 ·
  have fg:=aaH (b:=dM.body.xs) (i:=i) oM;refine au ?_;refine uL [19,20,22,1001,2019] [[],[],[],[],[],[],[],[],[],[],[],[],[],[],[],[],[],[],[],[],[1,19],[1,19,20],[1,19,20]] [0,1,2,3,4,5,6,7,8,9,10,11,12,13,14,15,16,17,18,19,20,21,22] [ar b4 (cX dM) 324,own aN 1 dM.body.sv dM.body.xs] [(19,wh bw 1 1 [(rb dM.body.xs i)])] oK (fun _ hw=>ai.mem hw) oK oK (an rfl (aP (o':=1) rfl rfl) (lh rfl (bW rfl) (an rfl (aP (o':=3) rfl rfl) (an rfl (bW rfl) (an rfl (bl rfl) (an rfl (rG rfl rfl oM) (an rfl (ba rfl rfl (2*i) rfl oM) (an rfl (bL (j:=0) rfl (2*i) (pt (xs:=dM.body.xs) (i:=2*i) (d:=0) oM) rfl (by decide)) (an rfl (vS rfl) (an rfl (NO rfl rfl) (an rfl (aP (o':=3) rfl rfl) (an rfl (bW rfl) ?_))))))))))));refine an rfl (bl rfl) (an rfl (rG rfl rfl oM) (an rfl (zj rfl rfl oM) (an rfl (ba rfl rfl (2*i+1) rfl oM) (an rfl (bL (j:=0) rfl (2*i+1) (pt (xs:=dM.body.xs) (i:=2*i+1) (d:=0) oM) rfl (by decide)) (an rfl (vS rfl) (an rfl (NP rfl rfl) (tp (m:=wh bw 1 1 [(rb dM.body.xs i)]) rfl rfl (Pb (enc:=bw) (c:=1) (n:=1) (vals:=[.int .i64 (rb dM.body.xs i)]) [(rb dM.body.xs i)] rfl rfl rfl (by decide) (by decide)) (Cert.none rfl) fun GA=>?_)))))));change Ln _ _ _ _ _ _ _ _ (cB _ _ (Sv.val ⟨false,GA,0,1,1,none⟩)) (own bw 1 ⟨false,GA,0,1,1,none⟩ [(rb dM.body.xs i)]::_) _;refine dN rfl (YA (s:=s1) (ys:=[(rb dM.body.xs i)]) rfl rfl (by decide) (fun w hw=>ke (s:=⟨false,GA,0,1,1,none⟩) Tryz.underlying60 (by decide) ((inferInstance:Hd _ _ ⟨false,GA,0,1,1,none⟩ bw 1 [(rb dM.body.xs i)]).h w hw)) (by simp only[aqT,aqQ,aqS];omega) (by simp only[aqT,aqQ,aqS];omega) fun SM an5 an6=>⟨fun _ hw=>ai.mem hw,?_⟩);refine an rfl (aP (o':=1) rfl rfl) ?_;refine dN rfl (zU (cs':=eP (⟨dM.gen,⟨SM,(((pH dM.body.xs).take i)++[(rb dM.body.xs i)])⟩⟩:dy)) rfl rfl (by show 1<2;decide) (by first|rfl|exact Sv.one _) rfl ⟨fun _ hw=>ai.mem hw,?_⟩);refine al ?_;refine Gi ?_;exact bn (x:=(i,s1)) (i+1,SM) (by simp only;omega) (by simp only;omega) sb (fun w hw=>by
   simp only[fg];exact ai.mem hw)
 obtain rfl:i=dM.body.xs.length/2:=by omega
 rw[aq5 oM]at*;refine aO ?_;refine Gr fun w1 hw=>?_;exact⟨⟨dM.gen,⟨s1,pH dM.body.xs⟩⟩,by rw[hE],by rw[hE];rfl,ai.mem hw⟩)⟩
instance SN{l:Sl (Sl UInt8)}[hl:aT w0 L l]:bZ Tryz.prog 257 w0 L [l.sv.val] (dy) (fun zz=> .tuple #[.int .i64 ((fU (aL l.xs)).1), .agg (eP zz), .int .i64 ((fU (aL l.xs)).2.2)]) (fun zz=>own bw 1 zz.at_.sv zz.at_.xs::L) (fun zz=>dE zz=(fU (aL l.xs)).2.1) (True):=⟨fun aG w hw=>Gk (fun zz:dy=>[own bw 1 zz.at_.sv zz.at_.xs]) hw (by
 have hl:=hl.h w hw;have qC:cH w l:=⟨hl⟩;have jz:=hl.1.bd;have iY:=oA l.xs;refine cC Tryz.func257 rfl Tryz.ntmps257 rfl ?_;refine ay ?_;refine bt fun b3=>ay ?_;refine ag (da (v:= .agg (eP lU)) rfl (fun w=>by kernel_rfl)) (bt fun b6=>ik ?_);refine bT (X:=Nat×dy) (fun zz=>[(16, .int .i64 (zz.1:Nat)),(5, .int .i64 ((du (aL l.xs) zz.1).at_)),(6, .pointer (some ⟨b6,0,none⟩)),(7, .bool ((du (aL l.xs) zz.1).found)),(8, .bool ((du (aL l.xs) zz.1).blank)),(3, .pointer (some ⟨b3,0,none⟩)),(14,l.sv.val),(15, .int .i64 (l.xs.length:Nat))]) (fun zz=>[ar b6 (eP zz.2) 314,own bw 1 zz.2.at_.sv zz.2.at_.xs,ar b3 (eP lU) 314]) (fun zz=>zz.1<=l.xs.length/\dE zz.2=(du (aL l.xs) zz.1).new) (fun zz=>l.xs.length -zz.1) (0,lU) ⟨Nat.zero_le _,rfl⟩ sb (fun w hw=>by
  have h9:Mem _ [ar b6 (eP lU) 314,own bw 1 Sv.none [],ar b3 (eP lU) 314] _:=ai.mem (Mem.dH bw 1 hw);exact h9) ?_
 rintro⟨i,d⟩ ⟨bc,aH⟩;dsimp only;simp only at bc aH;refine al ?_;refine Gb (fun h0=>?_) fun h0=>?_
 ·
  obtain⟨y,hy⟩:=get_some (xs:=l.xs) (i:=i) oM;have KV:Mb y l:=⟨List.mem_of_getElem? hy⟩;have SO:=qm hy;have SP:d.gen.toNat=(du (aL l.xs) i).new.gen:=congrArg RV.gen aH;refine ay ?_;refine ag (ba rfl rfl i rfl oM) (ag (bL (j:=0) rfl i hy rfl (by decide)) (aY ?_));refine gE rfl rfl rfl (fun hg=>cj (eC (aE hg rfl) iI) trivial) (au ?_);refine bg rfl trivial fun dG nZ=>?_;have SQ:dG.gen.toNat=(bC y.xs).1.gen:=congrArg RV.gen nZ;refine Gs ?_;refine ag (aK (v:= .agg (eP dG)) rfl rfl) (ag (aK (v:= .int .i64 ((bC y.xs).2)) rfl rfl) (bt fun oX=>c6 ?_));refine gE rfl rfl rfl (fun hg=>(Ry.yl (nj (aE hg rfl)))) (gE rfl rfl rfl (fun hg=>(Ry.yl (bl (aE hg rfl)))) (ur rfl rfl rfl (fun hg=>(Ry.yl (aP (o':=0) rfl rfl))) (ur rfl rfl rfl (fun hg=>(Ry.yl (bW (aE hg rfl)))) (ur rfl rfl rfl (fun hg=>(Ry.yl (aP (o':=0) rfl rfl))) (ur rfl rfl rfl (fun hg=>(Ry.yl (bW (aE hg rfl)))) (ur rfl rfl rfl (fun hg=>(Ry.yl (et (aE hg rfl) (aE hg rfl) rfl))) (gE rfl rfl rfl (fun hg=>(Ry.yl (zb (aE hg rfl) rfl (xB hg rfl)))) (ay ?_))))))));refine Gb (fun h1=>?_) fun h1=>?_
  ·
   have hq:(bC y.xs).2=0/\((du (aL l.xs) i).found=false\/(du (aL l.xs) i).new.gen<=(bC y.xs).1.gen):=⟨h1.1,h1.2.imp (fun h=>h) (fun h=>by rw[←SP,←SQ];omega)⟩;have vj:=Qz SO hq;refine jh [3] [[],[],[],[],[3]] [0,1,2,3,4] [ar oX (eP dG) 314] (fun _ hw=>ai.mem hw) oK oK (an rfl (bl rfl) (an rfl (jO rfl) (an rfl (ie rfl) (dN rfl (qX rfl rfl ⟨fun _ hw=>ai.mem hw,?_⟩)))));refine an rfl (ie rfl) (al ?_);refine Gi ?_;exact bn (x:=(i,d)) (i+1,dG) ⟨oF,by rw[vj];exact nZ⟩ (by simp only;omega) (Sub.cons rfl (Sub.cons (look_eq rfl (by simp only[vj])) (Sub.cons rfl (Sub.cons (look_eq rfl (by simp only[vj])) (Sub.cons (look_eq rfl (by simp only[vj])) sb))))) (fun w hw=>ai.mem hw)
  have hq: ¬((bC y.xs).2=0/\((du (aL l.xs) i).found=false\/(du (aL l.xs) i).new.gen<=(bC y.xs).1.gen)):=fun hq=>by
   rw[←SP,←SQ]at hq;rcases h1 with h|h
   ·
    exact h hq.1
   rcases hq.2 with g|g
   ·
    exact absurd (h.1.symm.trans g) (by simp)
   omega
  have vj:=QA SO hq;refine al ?_;refine Gi ?_;exact bn (x:=(i,d)) (i+1,d) ⟨oF,by rw[vj];exact aH⟩ (by simp only;omega) (Sub.cons rfl (Sub.cons (look_eq rfl (by simp only[vj])) (Sub.cons rfl (Sub.cons (look_eq rfl (by simp only[vj])) (Sub.cons (look_eq rfl (by simp only[vj])) sb))))) (fun w hw=>ai.mem hw)
 obtain rfl:i=l.xs.length:=by omega
 rw[←iY]at aH;refine au ?_;refine Gb (fun h2=>?_) fun h2=>?_
 ·
  have hE:fU (aL l.xs)=((du (aL l.xs) (aL l.xs).length).at_,(du (aL l.xs) (aL l.xs).length).new,0):=by rw[fU,if_pos (by rw[iY];exact h2)]
  refine Gi ?_;refine jh [3] [[],[],[],[],[3]] [0,1,2,3,4] [ar b6 (eP d) 314] (fun _ hw=>ai.mem hw) oK oK (an rfl (bl rfl) (an rfl (jO rfl) (an rfl (ie rfl) (dN rfl (qX rfl rfl ⟨fun _ hw=>ai.mem hw,?_⟩)))));refine an rfl (ie rfl) (Gc ?_);refine Gr fun w1 hw=>?_;exact⟨d,by rw[hE,iY],by rw[hE];exact aH,ai.mem hw⟩
 refine au ?_;refine Gb (fun h3=>?_) fun h3=>?_
 ·
  have hE:fU (aL l.xs)=(0,gY,6):=by rw[fU,if_neg (by rw[iY,h2];simp),if_pos (by rw[iY];exact h3)]
  refine Gc ?_;refine ag (da (v:= .agg (eP lU)) rfl (fun w=>by kernel_rfl)) (au ?_);refine Gr fun w1 hw=>?_;exact⟨lU,by rw[hE],by rw[hE];rfl,Mem.dH bw 1 (ai.mem hw:Mem w [] _)⟩
 have hE:fU (aL l.xs)=(0,gY,2):=by rw[fU,if_neg (by rw[iY,h2];simp),if_neg (by rw[iY,h3];simp)]
 refine Gc ?_;refine ag (da (v:= .agg (eP lU)) rfl (fun w=>by kernel_rfl)) (au ?_);refine Gr fun w1 hw=>?_;exact⟨lU,by rw[hE],by rw[hE];rfl,Mem.dH bw 1 (ai.mem hw:Mem w [] _)⟩)⟩
theorem acW(c:Cp)(s:Sl Int)(g:UInt64)(l:Int)(w:World):(Instr.build 63 #[(0, .agg (aS c)),(1,s.sv.val),(2, .int .u64 (g.toNat:Int)),(3, .int .i64 l)]).run Tryz.prog w= .ok (.agg (cn ⟨c,s,g,l⟩)) w:=by
 obtain⟨s,xs⟩:=s;obtain⟨a1,a2,⟨a3,a4⟩,a5,a6,⟨a7,a8⟩⟩:=c;unfold cn aS;obtain⟨e,b,o,l,c,p⟩:=s;obtain⟨e3,b3,o3,l3,c3,p3⟩:=a3;obtain⟨e7,b7,o7,l7,c7,p7⟩:=a7
 cases e<;>cases e3<;>cases e7<;>kernel_rfl
instance an7{c:Cp}[hc:aT w0 L c]:bZ Tryz.prog 221 w0 L [.agg (aS c)] (cl) (fun zz=> .tuple #[.agg (cn zz), .int .i64 ((bE (cv c)).2)]) (fun zz=>own bw 1 zz.at_.sv zz.at_.xs::L) (fun zz=>vv zz=(bE (cv c)).1/\((bE (cv c)).2=0->zz.ae=c)) (True):=⟨fun aG w hw=>Gk (fun zz:cl=>[own bw 1 zz.at_.sv zz.at_.xs]) hw (by
 have hc:=hc.h w hw;have kT:cH w c:=⟨hc⟩;refine cC Tryz.func221 rfl Tryz.ntmps221 rfl ?_;refine Gc ?_;refine bY rfl fun b1=>bt fun b2=>aY ?_;refine Gb (fun h0=>?_) fun h0=>?_
 ·
  have hE:bE (cv c)=(lr,1):=by rw[bE,if_pos h0]
  have bM:(1:Int)≠0:=by decide
  refine Gc ?_;refine ag (da (v:= .agg (cn lV)) rfl (fun w=>by kernel_rfl)) (al ?_);refine Gr fun w1 hw=>?_;exact⟨lV,by rw[hE],⟨by rw[hE];rfl,fun h=>absurd (by rw[hE]at h;exact h) bM⟩,Mem.dH bw 1 (ai.mem hw:Mem w [] _)⟩
 have pO:=fM.1 h0;have hk:=pO.1;have oT:(cv c).blocks.length=c.blocks.xs.length:=gU _;have iB:=lR.1 (fy.1 hk).1;obtain⟨B0,AP⟩:=get_some (xs:=c.blocks.xs) (i:=0) oM;obtain⟨B1,tP⟩:=get_some (xs:=c.blocks.xs) (i:=1) oM;have acX:Mb B0 c.blocks:=⟨List.mem_of_getElem? AP⟩;have acY:Mb B1 c.blocks:=⟨List.mem_of_getElem? tP⟩;have o0:=(fc.1 ((fy.1 hk).2.2.2.2 (bv B0) (anc (mW AP)))).1;have o1:=(fc.1 ((fy.1 hk).2.2.2.2 (bv B1) (anc (mW tP)))).1;have K1:=oA B0.pages.xs;have K2:=oA B1.pages.xs;simp only[bv,cv]at o0 o1 iB;have hT:aL (fG [B0.pages,B1.pages])=(ak (cv c) 0).pages++(ak (cv c) 1).pages:=by
  rw[JP,show ak (cv c) 0=bv B0 from JQ AP,show ak (cv c) 1=bv B1 from JQ tP];rfl
 have lB:=JO (l:=(ak (cv c) 0).pages++(ak (cv c) 1).pages) (by rw[←hT,JP,af0];omega);have iY:((ak (cv c) 0).pages++(ak (cv c) 1).pages).length=B0.pages.xs.length+B1.pages.xs.length:=by rw[←hT,JP,af0];omega
 have yz:0<=(bO (cv c)).1:=lB.1;have CW:(bO (cv c)).1<c.pages+c.pages:=by have:=lB.2;rw[iY]at this;change(bO (cv c)).1<_ at this;omega
 have gva:QE w (fG [B0.pages,B1.pages]):=⟨fun y hy=>by
  simp only[fG,arh,arZ,asl,atW,arL,aqZ]at hy;rcases hy with hy|hy
  ·
   exact(hc.1.2 B0 acX.h).2 y hy
  exact(hc.1.2 B1 acY.h).2 y hy⟩
 have an8:0<=((bO (cv c)).1/c.pages):=asW yz oM;have an9:((bO (cv c)).1/c.pages)<2:=Int.ediv_lt_of_lt_mul oM oM;have bF:=QH ((ak (cv c) 0).pages++(ak (cv c) 1).pages);have KU:(c.blocks.xs.getD ((bO (cv c)).1/c.pages).toNat ql).used=(ak (cv c) ((bO (cv c)).1/c.pages)).used:=congrArg BV.used (xX (c:=c));refine au ?_;refine Gb (fun h1=>?_) fun h1=>?_
 ·
  have hE:bE (cv c)=(lr,7):=by rw[bE,if_neg (by rw[h0];simp),if_pos (show(cv c).off=true from h1)]
  have bM:(7:Int)≠0:=by decide
  refine Gc ?_;refine ag (da (v:= .agg (cn lV)) rfl (fun w=>by kernel_rfl)) (al ?_);refine Gr fun w1 hw=>?_;exact⟨lV,by rw[hE],⟨by rw[hE];rfl,fun h=>absurd (by rw[hE]at h;exact h) bM⟩,Mem.dH bw 1 (ai.mem hw:Mem w [] _)⟩
 have qN: ¬(cv c).off=true:=by rw[show(cv c).off=c.off from rfl,h1];simp
 refine Gc ?_;refine uL [10,11,12,17,19,2010,2017,4011,4012] [[],[],[],[],[],[],[],[],[],[],[],[10],[10,11],[10,11,12],[10,11,12],[10,11,12],[10,11,12],[],[10,11,12,17],[10,11,12,17],[10,11,12,17,19]] [0,1,2,3,4,5,6,7,8,9,10,11,12,13,14,15,16,17,18,19,20] [ar b1 (aS c) 59] [(10,wh (ca (τ:=Sl UInt8)) 1 2 [B0.pages,B1.pages]),(17,ov Tryz.prog 314)] oK (fun _ hw=>ai.mem hw) oK oK (an rfl (aP (o':=2) rfl rfl) (an rfl (bW rfl) (an rfl (ba rfl rfl 0 rfl oM) (an rfl (aP rfl rfl) (an rfl (bL (j:=0) rfl 0 AP rfl (by decide)) (an rfl (aP (o':=2) rfl rfl) (an rfl (bW rfl) (an rfl (ba rfl rfl 1 rfl oM) (an rfl (aP rfl rfl) (an rfl (bL (j:=0) rfl 1 tP rfl (by decide)) (tp (m:=wh (ca (τ:=Sl UInt8)) 1 2 [B0.pages,B1.pages]) rfl rfl (Pb (enc:=(ca (τ:=Sl UInt8))) (c:=1) (n:=2) (vals:=[B0.pages.sv.val,B1.pages.sv.val]) [B0.pages,B1.pages] rfl (by simp only[arh,arZ,Sv.jw];rfl) rfl (by decide) (by decide)) (Cert.one (i:=17) rfl rfl rfl nF (Cert.none rfl)) fun GB=>?_)))))))))));change Ln _ _ _ _ _ _ _ _ (cB _ _ (Sv.val ⟨false,GB,0,2,2,none⟩)) (own (ca (τ:=Sl UInt8)) 1 ⟨false,GB,0,2,2,none⟩ [B0.pages,B1.pages]::_) _;refine xN (hc:=SJ (a:=(⟨⟨false,GB,0,2,2,none⟩,[B0.pages,B1.pages]⟩:Sl (Sl (Sl UInt8))))) (I9:=fun e_=>SJ (a:=(⟨⟨false,GB,0,2,2,none⟩,[B0.pages,B1.pages]⟩:Sl (Sl (Sl UInt8))))) rfl rfl (by simp only[fG,arh,arZ,asl,atW,af0,aqS];omega) (fun e x w hw=>ai.mem hw) (Cert.one (i:=17) rfl rfl rfl nF (Cert.none rfl)) fun rv tT=>⟨fun _ hw=>ai.mem hw,?_⟩;refine xN (hc:=SN (l:=(⟨rv,(fG [B0.pages,B1.pages])⟩:Sl (Sl UInt8)))) (I9:=fun e_=>SN (l:=(⟨rv,(fG [B0.pages,B1.pages])⟩:Sl (Sl UInt8)))) rfl rfl trivial (fun e x w hw=>ai.mem hw) (Cert.one (i:=17) rfl rfl rfl nF (Cert.none rfl)) fun dG nZ=>⟨fun _ hw=>ai.mem hw,?_⟩;have iM:(fU (aL (fG [B0.pages,B1.pages]))).1=(bO (cv c)).1:=by rw[hT];rfl
 have K3:(fU (aL (fG [B0.pages,B1.pages]))).2.2=(bO (cv c)).2.2:=by rw[hT];rfl
 have SR:dE dG=(bO (cv c)).2.1:=by rw[nZ,hT];rfl
 have oV:dG.gen.toNat=(bO (cv c)).2.1.gen:=congrArg RV.gen SR;have AB:dG.at_.xs=(bO (cv c)).2.1.at_:=congrArg RV.at_ SR;refine an rfl (bl rfl) (an rfl (aK (v:= .int .i64 ((fU (aL (fG [B0.pages,B1.pages]))).1)) rfl rfl) (an rfl (aK (v:= .agg (eP dG)) rfl rfl) (an rfl (aK (v:= .int .i64 ((fU (aL (fG [B0.pages,B1.pages]))).2.2)) rfl rfl) (tp (m:=ov Tryz.prog 314) rfl rfl nF (Cert.none rfl) fun b5=>?_))));change Ln _ _ _ _ _ _ _ _ (cB _ _ (.pointer (some ⟨b5,0,none⟩))) (ar b5 (eP lU) 314::_) _;refine an rfl (ie rfl) (dN rfl (qX rfl rfl ⟨fun _ hw=>ai.mem hw,?_⟩));refine an rfl (ie rfl) (au ?_);refine Gb (fun h2=>?_) fun h2=>?_
 ·
  rw[K3]at h2;have hE:bE (cv c)=(lr,(bO (cv c)).2.2):=by rw[bE,if_neg (by rw[h0];simp),if_neg qN,if_pos h2]
  have bM:=h2;refine Gc ?_;refine ag (da (v:= .agg (cn lV)) rfl (fun w=>by kernel_rfl)) (au ?_);refine Gr fun w1 hw=>?_;exact⟨lV,by rw[hE,K3],⟨by rw[hE];rfl,fun h=>absurd (by rw[hE]at h;exact h) bM⟩,Mem.dH bw 1 (ai.mem hw:Mem w [] _)⟩
 rw[K3]at h2;refine au ?_;refine ag (mj rfl rfl oM oM) (ay ?_);refine gO oK oK (al ?_);refine bH (zl rfl rfl oM oM) (al ?_);refine bH (ba rfl rfl (((fU (aL (fG [B0.pages,B1.pages]))).1/c.pages).toNat) (by rw[iM];omega) (by rw[iM];omega)) (bH (aP rfl rfl) (bH (bL (j:=1) rfl (((fU (aL (fG [B0.pages,B1.pages]))).1/c.pages).toNat) (pt (xs:=c.blocks.xs) (i:=((fU (aL (fG [B0.pages,B1.pages]))).1/c.pages).toNat) (d:=ql) (by rw[iM];omega)) rfl (by decide)) (ay ?_)));refine fL rfl rfl rfl (fun hg=>(Ry.yl (jO rfl))) (ay ?_);refine fL rfl rfl rfl (fun hg=>cj (eC (aE hg rfl) (eC (aE hg rfl) iI)) ⟨hk,fun x hx=>bF x (by rw[AB]at hx;exact hx)⟩) (fL rfl rfl rfl (fun hg=>(Ry.yl (nj (aE hg rfl)))) (ay ?_));refine Gb (fun h3=>?_) fun h3=>?_
 ·
  have v7:mv (cv c)=false:=by
   rw[AB]at h3
   cases tM:mv (cv c)with
   |false=>rfl
   |true=>
    simp only[mv,alM,decide_eq_true_eq]at tM;rw[tM.2]at h3;simp only[asF,or_false]at h3;have:=tM.1;rw[iM,KU]at h3;exact absurd this (by simp only[cv]at*;omega)
  have hE:bE (cv c)=(lr,2):=by rw[bE,if_neg (by rw[h0];simp),if_neg qN,if_neg oM,if_pos v7]
  have bM:(2:Int)≠0:=by decide
  refine Gc ?_;refine ag (da (v:= .agg (cn lV)) rfl (fun w=>by kernel_rfl)) (al ?_);refine Gr fun w1 hw=>?_;exact⟨lV,by rw[hE],⟨by rw[hE];rfl,fun h=>absurd (by rw[hE]at h;exact h) bM⟩,Mem.dH bw 1 (ai.mem hw:Mem w [] _)⟩
 have v7:mv (cv c)=true:=by
  rw[AB,iM,KU]at h3;simp only[mv,alM,decide_eq_true_eq];exact⟨by have:=h3.1;simp only[cv]at*;omega,h3.2⟩
 have hE:bE (cv c)=(⟨cv c,(bO (cv c)).2.1.at_,(bO (cv c)).2.1.gen,(bO (cv c)).1/c.pages⟩,0):=by rw[bE,if_neg (by rw[h0];simp),if_neg qN,if_neg oM,if_neg (by rw[v7];simp)];rfl
 refine c6 ?_;refine ag (da (v:= .agg (cn ⟨c,dG.at_,dG.gen,((fU (aL (fG [B0.pages,B1.pages]))).1/c.pages)⟩)) rfl (acW c dG.at_ dG.gen ((fU (aL (fG [B0.pages,B1.pages]))).1/c.pages))) (al ?_);refine Gr fun w1 hw=>?_;exact⟨⟨c,dG.at_,dG.gen,(fU (aL (fG [B0.pages,B1.pages]))).1/c.pages⟩,by rw[hE],⟨by rw[hE];simp only[vv,AB,oV,iM],fun _=>rfl⟩,ai.mem hw⟩)⟩
instance aoa{c:Cp}[hc:aT w0 L c]:bZ Tryz.prog 180 w0 L [.agg (aS c)] (cl) (fun zz=> .tuple #[.agg (cn zz), .int .i64 ((bE (cv c)).2)]) (fun zz=>fz zz.ae::own bw 1 zz.at_.sv zz.at_.xs::L) (fun zz=>vv zz=(if(bE (cv c)).2=0 then(bE (cv c)).1 else lr)) (True):=⟨fun aG w hw=>Gk (fun zz:cl=>[fz zz.ae,own bw 1 zz.at_.sv zz.at_.xs]) hw (by
 have hc:=hc.h w hw;have kT:cH w c:=⟨hc⟩;refine cC Tryz.func180 rfl Tryz.ntmps180 rfl ?_;refine Gc ?_;refine bY rfl fun b1=>bt fun b2=>al ?_;refine bg rfl trivial fun x8 rr=>?_;obtain⟨SS,SU⟩:=rr;have hl8:=QJ (cv c);have ha8:x8.at_.xs=(bE (cv c)).1.at_:=congrArg VV.at_ SS;rw[←ha8]at hl8;refine Gs ?_;refine ag (aK (v:= .agg (cn x8)) rfl rfl) (ag (aK (v:= .int .i64 ((bE (cv c)).2)) rfl rfl) (bt fun b4=>aY ?_));refine Gb (fun h0=>?_) fun h0=>?_
 ·
  refine Gc ?_;refine ag (da (v:= .agg (cn lV)) rfl (fun w=>by kernel_rfl)) (au ?_);refine Gr fun w1 hw=>?_;exact⟨lV,rfl,by rw[if_neg h0];rfl,aaP (Mem.dH bw 1 (ai.mem hw:Mem w [] _))⟩
 have yA:(bE (cv c)).2=0:=h0;have ec:QK x8.ae c:=⟨SU yA⟩;have lF:gg x8.ae:=by rw[SU yA];exact qp (fM.1 (JR yA)).1
 refine kE ?_;refine ta [Deep.cc x8.at_,ar b4 (cn x8) 63,ar b2 (cn lV) 63,ar b1 (aS c) 59] (fun w hw=>ai.mem (Mem.Pu (ai.mem hw:Mem _ [own bw 1 x8.at_.sv x8.at_.xs,ar b4 (cn x8) 63,ar b2 (cn lV) 63,ar b1 (aS c) 59] _))) (Gi ?_);refine Gs ?_;refine bg rfl ⟨by assumption,by omega⟩ fun aD kV=>al ?_;refine Gr fun w1 hw=>?_;exact⟨(⟨aD.1,⟨aD.2,x8.at_.xs⟩,x8.gen,x8.last⟩:cl),by rw[yA],by
  rw[if_pos yA,←SS];simp only[vv,kV],ai.mem hw⟩)⟩
instance aob{v:cl}[hv:aT w0 L v]:cd Tryz.prog 173 w0 L [.agg (cn v)] (.bool (lY (vv v))) (True):=⟨fun aG w hw=>by
 have hv:=hv.h w hw;have CU:cH w v:=⟨hv⟩;refine cC Tryz.func173 rfl Tryz.ntmps173 rfl ?_;refine Gc ?_;refine bY rfl fun b1=>al ?_;refine ag (iJ rfl) (bt fun b3=>al ?_);refine eN (cs':=aS (⟨v.ae.pages,v.ae.size,v.ae.blocks,v.ae.ops,false,v.ae.aU⟩:Cp)) rfl rfl (by show 4<6;decide) (by first|rfl|exact Sv.one _) rfl (ay ?_);refine bg rfl trivial fun dM yy=>?_;obtain⟨K4,aoc⟩:=yy;have hvg:dM.gen.toNat=(bE {(vv v).ae with off:=false}).1.gen:=congrArg VV.gen K4
 have AQ:dM.last=(bE {(vv v).ae with off:=false}).1.last:=congrArg VV.last K4
 have hva:dM.at_.xs=(bE {(vv v).ae with off:=false}).1.at_:=congrArg VV.at_ K4
 refine Gs ?_;refine ag (aK (v:= .agg (cn dM)) rfl rfl) (ag (aK (v:= .int .i64 ((bE (cv (⟨v.ae.pages,v.ae.size,v.ae.blocks,v.ae.ops,false,v.ae.aU⟩:Cp))).2)) rfl rfl) (bt fun b4=>YP ?_));refine gE rfl rfl rfl (fun hg=>cj (eC (aE hg rfl) (eC (aE hg rfl) iI)) trivial) (al ?_);refine Gr fun w1 hw=>?_;exact⟨congrArg (fun b=>Ending.returned (Value.bool b)) ((by rw[show decide (((dM.gen.toNat:Nat):Int)=((v.gen.toNat:Nat):Int))=decide (dM.gen.toNat=v.gen.toNat)from decide_eq_decide.2 oM,lY,←hvg,←AQ,←hva];rfl)),ai.mem hw⟩⟩
instance SV{v:cl}{id:Int}[hv:aT w0 L v]:bZ Tryz.prog 347 w0 L [.agg (cn v), .int .i64 id] (Sv) (fun zz=>zz.val) (fun zz=>own aN 1 zz (iV (cv v.ae) (v.at_.xs.getD id.toNat 0))::L) (fun zz=>True) (aX (cv v.ae)=true/\ ∃y,v.at_.xs[id.toNat]? =Option.some y/\0<=id/\1<=y/\y<=1000000/\2<=(y -1)/(cv v.ae).pages/\(y -1)/(cv v.ae).pages<((cv v.ae).blocks.length:Int)):=⟨fun aG w hw=>Gk (fun zz=>[own aN 1 zz (iV (cv v.ae) (v.at_.xs.getD id.toNat 0))]) hw (by
 have hv:=hv.h w hw;have CU:cH w v:=⟨hv⟩;obtain⟨hk,y,hy,hid,Gn,CZ,g1,g2⟩:=aG;have oW:v.at_.xs.getD id.toNat 0=y:=pI hy;have dD:=(ad2.1 hy).1;have dP:=gU v.ae.blocks.xs;have iB:=lR.1 (fy.1 hk).1;simp only[cv,dP]at iB;have CX:0<=((y -1)/v.ae.pages):=asW oM oM;have nW:0<=((y -1)%v.ae.pages):=asZ _ oM;have pN:((y -1)%v.ae.pages)<v.ae.pages:=as5 _ oM;have pO:=xX (c:=v.ae) (b:=((y -1)/v.ae.pages));change 2<=((y -1)/v.ae.pages)at g1;change((y -1)/v.ae.pages)<((iU v.ae.blocks.xs).length:Int)at g2;rw[dP]at g2;obtain⟨B,hB⟩:=get_some (xs:=v.ae.blocks.xs) (i:=((y -1)/v.ae.pages).toNat) oM;have sD:Mb B v.ae.blocks:=⟨List.mem_of_getElem? hB⟩;have eX:bv B=ak (cv v.ae) ((y -1)/v.ae.pages):=by rw[←pO];simp[List.getD,hB]
 have gm:=fc.1 ((fy.1 hk).2.2.2.2 (bv B) (anc (mW hB)));have iY:=oA B.pages.xs;have CY:(B.pages.xs.length:Int)=v.ae.pages:=by have:=gm.1;simp only[bv,cv,iY]at this;exact this
 obtain⟨z,hz⟩:=get_some (xs:=B.pages.xs) (i:=((y -1)%v.ae.pages).toNat) oM;have wS:Mb z B.pages:=⟨List.mem_of_getElem? hz⟩;have qy:bK (cv v.ae) (y -1)=z.xs:=by
  show(ak (cv v.ae) ((y -1)/v.ae.pages)).pages.getD ((y -1)%v.ae.pages).toNat []=z.xs;rw[←eX];simp[bv,List.getD,qm hz]
 refine cQ Tryz.func347 rfl Tryz.ntmps347 rfl ?_;refine Gc ?_;refine bY rfl fun b2=>aO ?_;refine ag (ba rfl rfl id.toNat oM oM) (ag (bL (j:=0) rfl id.toNat hy rfl (by decide)) (al ?_));refine uL [18,22,23,2022,4018] [[],[],[],[],[],[],[],[],[],[],[],[],[],[],[],[],[],[],[],[18],[18],[18],[],[18,22],[18,22,23]] [0,1,2,3,4,5,6,7,8,9,10,11,12,13,14,15,16,17,18,19,20,21,22,23,24] [ar b2 (cn v) 63] [(22,ov Tryz.prog 324)] oK (fun _ hw=>ai.mem hw) oK oK (an rfl (aP (o':=0) rfl rfl) (an rfl (aP (o':=2) rfl rfl) (an rfl (bW rfl) (an rfl (bl rfl) (an rfl (aP (o':=0) rfl rfl) (an rfl (aP (o':=0) rfl rfl) (an rfl (bW rfl) (an rfl (mj rfl rfl oM oM) (an rfl (ba rfl rfl (((y -1)/v.ae.pages).toNat) oM oM) (an rfl (aP rfl rfl) (an rfl (bL (j:=0) rfl (((y -1)/v.ae.pages).toNat) hB rfl (by decide)) (an rfl (bl rfl) ?_))))))))))));refine an rfl (aP (o':=0) rfl rfl) (an rfl (aP (o':=0) rfl rfl) (an rfl (bW rfl) (an rfl (zl rfl rfl oM oM) (an rfl (ba rfl rfl (((y -1)%v.ae.pages).toNat) oM oM) (an rfl (bL (j:=0) rfl (((y -1)%v.ae.pages).toNat) hz rfl (by decide)) ?_)))));refine xN rfl rfl trivial (fun e x w hw=>ai.mem hw) (Cert.one (i:=22) rfl rfl rfl nF (Cert.none rfl)) fun kt wX=>⟨fun _ hw=>ai.mem hw,?_⟩;have e1:kt.body.xs=(cD z.xs).1.body:=congrArg PV.body wX;refine an rfl (bl rfl) (an rfl (aK (v:= .agg (cX kt)) rfl rfl) (an rfl (aK (v:= .int .i64 ((cD z.xs).2)) rfl rfl) (tp (m:=ov Tryz.prog 324) rfl rfl nF (Cert.none rfl) fun b6=>?_)));change Ln _ _ _ _ _ _ _ _ (cB _ _ (.pointer (some ⟨b6,0,none⟩))) (ar b6 (cX oH) 324::_) _;refine dN rfl (qX rfl rfl ⟨fun _ hw=>ai.mem hw,?_⟩);refine an rfl (ie rfl) (au ?_);refine Gb (fun h0=>?_) fun h0=>?_
 ·
  have hE:(iV (cv v.ae) (v.at_.xs.getD id.toNat 0))=[]:=by rw[oW,iV,qy,if_neg h0]
  refine al ?_;refine Gr fun w1 hw=>?_;exact⟨Sv.none,rfl,trivial,by rw[hE];exact Mem.dH aN 1 (ai.mem hw:Mem w [] _)⟩
 have yA:(cD z.xs).2=0:=h0;have hE:(iV (cv v.ae) (v.at_.xs.getD id.toNat 0))=kt.body.xs:=by rw[oW,iV,qy,if_pos yA,e1]
 refine aO ?_;refine Gr fun w1 hw=>?_;exact⟨kt.body.sv,rfl,trivial,by rw[hE];exact ai.mem hw⟩)⟩
instance aod{x:fe}{n:Int}[hx:aT w0 L x]:bZ Tryz.prog 255 w0 L [.agg (cX x), .int .i64 n] (Sv) (fun zz=> .tuple #[zz.val, .int .i64 ((dj (cI x) n).2)]) (fun zz=>own aN 1 zz (dj (cI x) n).1::L) (fun zz=>True) (True):=⟨fun aG w hw=>Gk (fun zz=>[own aN 1 zz (dj (cI x) n).1]) hw (by
 have hx:=hx.h w hw;have AL:cH w x:=⟨hx⟩;refine cQ Tryz.func255 rfl Tryz.ntmps255 rfl ?_;refine Gc ?_;refine bY rfl fun b2=>fx ?_;refine Gb (fun h0=>?_) fun h0=>?_
 ·
  have hE:dj (cI x) n=([],1):=by rw[dj,if_neg (by rw[h0];simp)]
  refine au ?_;refine Gr fun w1 hw=>?_;exact⟨Sv.none,by rw[hE];rfl,trivial,by rw[hE];exact Mem.dH aN 1 (ai.mem hw:Mem w [] _)⟩
 have hE:dj (cI x) n=((jB (cI x) n.toNat)++be (nH (jB (cI x) n.toNat)) 4,0):=by rw[dj,if_pos h0]
 obtain⟨m1,m2,m3,m4,m5,m6⟩:=ra.1 h0;have hft:=r8.1 m1;have wU:dO n=n -16:=by rw[dO,if_pos m1]
 simp only[cI]at m2 m3 m4 m5 m6;have Ps:(List.replicate (n.toNat -4) (0:UInt8)).length=n.toNat -4:=arK;have dP:x.body.xs.length+16<=n.toNat:=by omega
 have hg6:=jv x.gen.toNat 6;have AR:=jv x.body.xs.length 2;have qb:=Jn (jB (cI x) n.toNat);have bS:(jB (cI x) n.toNat).length=n.toNat -4:=aaG (by simp only[cI];omega);refine al ?_;refine rJ (enc:=aN) (n:=(n.toNat -4)) (cap:=(n.toNat -4)) 0 rfl rfl rfl oM oM oM oM oM fun j7=>Gs ?_;refine kE ?_;have C0:=FC (b:=j7) (n:=(n.toNat -4)) oM;refine jh [9,11] [[],[],[],[],[],[],[],[],[],[],[9],[9]] [0,1,2,3,4,5,6,7,8,9,10,11] [ar b2 (cX x) 324] (fun _ hw=>ai.mem hw) oK oK (an rfl (bl rfl) (an rfl (bl rfl) (an rfl (aP (o':=0) rfl rfl) (an rfl (bW rfl) (an rfl (uk rfl (Aj _)) (an rfl (aP (o':=1) rfl rfl) (an rfl (bW rfl) (an rfl (uk rfl (Aj _)) (an rfl (mn (s:=⟨false,j7,0,(n.toNat -4),(n.toNat -4),none⟩) (i:=0) rfl rfl rfl C0 (by simp only;omega)) (dN rfl (we (s:=⟨false,j7,0,(n.toNat -4),(n.toNat -4),none⟩) (n:=1) (k:=0) (j:=0) (a:=0) (a':=cO x.kind) (xs:=(List.replicate (n.toNat -4) (0:UInt8))) (enc:=aN) (c:=1) (v:= .int .u8 (cO x.kind).toNat) oK rfl rfl rfl (by rw[atq,if_pos oM]) (by simp[Value.cells,Value.oneCell']) rfl oM (by rfl) ⟨fun _ hw=>ai.mem hw,?_⟩)))))))))));refine an rfl (mn (s:=⟨false,j7,0,(n.toNat -4),(n.toNat -4),none⟩) (i:=1) rfl rfl rfl C0 (by simp only;omega)) (dN rfl (we (s:=⟨false,j7,0,(n.toNat -4),(n.toNat -4),none⟩) (n:=1) (k:=1) (j:=0) (a:=0) (a':=cO x.id) (xs:=((List.replicate (n.toNat -4) (0:UInt8)).set 0 (cO x.kind))) (enc:=aN) (c:=1) (v:= .int .u8 (cO x.id).toNat) oK rfl rfl rfl (by rw[arj (by decide),atq,if_pos oM]) (by simp[Value.cells,Value.oneCell']) rfl oM (by rfl) ⟨fun _ hw=>ai.mem hw,?_⟩));refine kE ?_;refine ta [own aN 1 ⟨false,j7,0,(n.toNat -4),(n.toNat -4),none⟩ ([cO x.kind,cO x.id]++List.replicate ((n.toNat -4) -2) (0:UInt8)),ar b2 (cX x) 324] (fun w hw=>by
  rw[aaF oM]at hw;exact ai.mem hw) ?_
 refine jh [4,5] [[],[],[],[],[],[4]] [0,1,2,3,4,5] [ar b2 (cX x) 324] (fun _ hw=>ai.mem hw) oK oK (an rfl (bl rfl) ?_);have acZ:Rg 2 8 (List.replicate (n.toNat -4) (0:UInt8)).length:=⟨by omega⟩;refine an rfl (Eh (s:=⟨false,j7,0,(n.toNat -4),(n.toNat -4),none⟩) (l:=2) (h:=8) rfl rfl rfl rfl rfl C0 oM (by simp only;omega)) (an rfl (aP (o':=2) rfl rfl) (an rfl (bW rfl) (dN rfl (pA (vs:=[_, .int .i64 ((6:Nat):Int)]) rfl ⟨by omega,by omega,by omega⟩ fun dG nZ=>⟨fun _ hw=>ai.mem hw,?_⟩))));refine dN rfl (JC (D:=Sv.sub ⟨false,j7,0,(n.toNat -4),(n.toNat -4),none⟩ 1 2 8) (S:=dG) (rm:=⟨false,j7,0,(n.toNat -4),(n.toNat -4),none⟩) (k:=2) (xs:=([cO x.kind,cO x.id]++List.replicate ((n.toNat -4) -2) (0:UInt8))) (ys:=(be x.gen.toNat 6)) rfl rfl rfl rfl (by simp only[Sv.sub];rw[if_neg oM]) rfl (by decide) rfl (by simp only[Sv.sub,jv];omega) (by simp only[af0,jv,arK,aqQ,aqS];omega) ⟨fun _ hw=>ai.mem hw,?_⟩);refine kE ?_;refine ta [own aN 1 ⟨false,j7,0,(n.toNat -4),(n.toNat -4),none⟩ ([cO x.kind,cO x.id]++(be x.gen.toNat 6)++List.replicate ((n.toNat -4) -2 -(be x.gen.toNat 6).length) (0:UInt8)),ar b2 (cX x) 324] (fun w hw=>by
  rw[JM (A:=[cO x.kind,cO x.id]) (k:=2) rfl]at hw;exact ai.mem hw) ?_
 refine jh [6,7] [[],[],[],[],[],[],[],[6]] [0,1,2,3,4,5,6,7] [ar b2 (cX x) 324] (fun _ hw=>ai.mem hw) oK oK (an rfl (bl rfl) ?_);have aoe:Rg 8 10 (List.replicate (n.toNat -4) (0:UInt8)).length:=⟨by omega⟩;refine an rfl (Eh (s:=⟨false,j7,0,(n.toNat -4),(n.toNat -4),none⟩) (l:=8) (h:=10) rfl rfl rfl rfl rfl C0 oM (by simp only;omega)) (an rfl (aP (o':=3) rfl rfl) (an rfl (bW rfl) (an rfl (uy rfl) (an rfl (kZ rfl (by simp only[nb];omega)) (dN rfl (pA (vs:=[_, .int .i64 ((2:Nat):Int)]) rfl ⟨by omega,by omega,by omega⟩ fun x36 aof=>⟨fun _ hw=>ai.mem hw,?_⟩))))));refine dN rfl (JC (D:=Sv.sub ⟨false,j7,0,(n.toNat -4),(n.toNat -4),none⟩ 1 8 10) (S:=x36) (rm:=⟨false,j7,0,(n.toNat -4),(n.toNat -4),none⟩) (k:=8) (xs:=([cO x.kind,cO x.id]++(be x.gen.toNat 6)++List.replicate ((n.toNat -4) -2 -(be x.gen.toNat 6).length) (0:UInt8))) (ys:=(be x.body.xs.length 2)) rfl rfl rfl rfl (by simp only[Sv.sub];rw[if_neg oM]) rfl (by decide) rfl (by simp only[Sv.sub,jv];omega) (by simp only[af0,jv,arK,aqQ,aqS];omega) ⟨fun _ hw=>ai.mem hw,?_⟩);refine kE ?_;refine ta [own aN 1 ⟨false,j7,0,(n.toNat -4),(n.toNat -4),none⟩ ([cO x.kind,cO x.id]++(be x.gen.toNat 6)++(be x.body.xs.length 2)++List.replicate ((n.toNat -4) -2 -(be x.gen.toNat 6).length -(be x.body.xs.length 2).length) (0:UInt8)),ar b2 (cX x) 324] (fun w hw=>by
  rw[JM (A:=[cO x.kind,cO x.id]++(be x.gen.toNat 6)) (k:=8) (by simp[jv])]at hw;exact ai.mem hw) ?_
 refine jh [4] [[],[],[],[],[]] [0,1,2,3,4] [ar b2 (cX x) 324] (fun _ hw=>ai.mem hw) oK oK (an rfl (bl rfl) ?_);have aog:Rg 10 ((List.replicate (n.toNat -4) (0:UInt8)).length) (List.replicate (n.toNat -4) (0:UInt8)).length:=⟨by omega⟩;refine an rfl (sZ (s:=⟨false,j7,0,(n.toNat -4),(n.toNat -4),none⟩) (l:=10) (n:=(n.toNat -4)) rfl rfl rfl C0 rfl oM) (an rfl (aP (o':=3) rfl rfl) (an rfl (bW rfl) ?_));refine dN rfl (JC (D:=Sv.sub ⟨false,j7,0,(n.toNat -4),(n.toNat -4),none⟩ 1 10 (n.toNat -4)) (S:=x.body.sv) (rm:=⟨false,j7,0,(n.toNat -4),(n.toNat -4),none⟩) (k:=10) (xs:=([cO x.kind,cO x.id]++(be x.gen.toNat 6)++(be x.body.xs.length 2)++List.replicate ((n.toNat -4) -2 -(be x.gen.toNat 6).length -(be x.body.xs.length 2).length) (0:UInt8))) (ys:=x.body.xs) rfl rfl rfl rfl (by simp only[Sv.sub];rw[if_neg oM]) rfl (by decide) rfl (by simp only[Sv.sub,jv];omega) (by simp only[af0,jv,arK,aqQ,aqS];omega) ⟨fun _ hw=>ai.mem hw,?_⟩);refine kE ?_;refine ta [own aN 1 ⟨false,j7,0,(n.toNat -4),(n.toNat -4),none⟩ (jB (cI x) n.toNat),ar b2 (cX x) 324] (fun w hw=>by
  rw[JM (A:=[cO x.kind,cO x.id]++(be x.gen.toNat 6)++(be x.body.xs.length 2)) (k:=10) (by simp[jv]),show([cO x.kind,cO x.id]++(be x.gen.toNat 6)++(be x.body.xs.length 2)++x.body.xs++List.replicate ((n.toNat -4) -2 -(be x.gen.toNat 6).length -(be x.body.xs.length 2).length -x.body.xs.length) (0:UInt8))=(jB (cI x) n.toNat)from by
   simp only[jB,cI,jv];congr 2<;>omega]at hw
  exact ai.mem hw) ?_
 refine Gi ?_;refine al ?_;refine ag (kZ rfl (by simp only[nb];omega)) (bg (vs:=[_, .int .i64 ((4:Nat):Int)]) rfl ⟨by omega,by omega,by omega⟩ fun lI wY=>?_);refine lO (enc:=(ca (τ:=UInt8))) [(⟨⟨false,j7,0,(n.toNat -4),(n.toNat -4),none⟩,(jB (cI x) n.toNat)⟩:Sl UInt8),⟨lI,be (nH (jB (cI x) n.toNat)) 4⟩] (vals:=[(⟨false,j7,0,(n.toNat -4),(n.toNat -4),none⟩:Sv).val,lI.val]) rfl (by simp only[arh,arZ,Sv.jw];rfl) rfl (by decide) (by decide) fun b48=>?_;refine Zf (τ:=Sl UInt8) (xs:=[(⟨⟨false,j7,0,(n.toNat -4),(n.toNat -4),none⟩,(jB (cI x) n.toNat)⟩:Sl UInt8),⟨lI,be (nH (jB (cI x) n.toNat)) 4⟩]) fun a48 Ji g48=>?_;have SW:kG a48.xs=(dj (cI x) n).1:=by rw[Ji,hE];simp[kG]
 have hf9:(dj (cI x) n).1.length<=1000:=by rw[hE,af0,jv];omega
 refine bg rfl (by rw[SW];omega) fun x49 aoh=>al ?_;refine Gr fun w1 hw=>?_;exact⟨x49,by rw[hE],trivial,by rw[←SW];exact ai.mem hw⟩)⟩
theorem ac0(i:Int)(g:UInt64)(w:World):(Instr.build 324 #[(0, .int .i64 2),(1, .int .i64 i),(2, .int .u64 (g.toNat:Int))]).run Tryz.prog w= .ok (.agg (cX ⟨2,i,g,⟨Sv.none,[]⟩⟩)) w:=by
 unfold cX;kernel_rfl
instance aoi{r:dy}{n:Int}[hr:aT w0 L r]:bZ Tryz.prog 218 w0 L [.agg (eP r), .int .i64 n] (Sv) (fun zz=> .tuple #[zz.val, .int .i64 ((cS (dE r) n).2)]) (fun zz=>own aN 1 zz (cS (dE r) n).1::L) (fun zz=>True) (True):=⟨fun aG w hw=>Gk (fun zz=>[own aN 1 zz (cS (dE r) n).1]) hw (by
 have hr:=hr.h w hw;have ghr:cH w r:=⟨hr⟩;have jz:=hr.1.bd;refine cQ Tryz.func218 rfl Tryz.ntmps218 rfl ?_;refine Gc ?_;refine bY rfl fun b2=>fx ?_;refine Gb (fun h0=>?_) fun h0=>?_
 ·
  have hE:cS (dE r) n=([],1):=by rw[cS,if_neg (by rw[h0];simp)]
  refine au ?_;refine Gr fun w1 hw=>?_;exact⟨Sv.none,by rw[hE];rfl,trivial,by rw[hE];exact Mem.dH aN 1 (ai.mem hw:Mem w [] _)⟩
 have hE:cS (dE r) n=dj (⟨2,(max 0 (r.at_.xs.length -1:Int)),r.gen.toNat,gG r.at_.xs⟩:PV) n:=by rw[cS,if_pos h0];rfl
 obtain⟨m1,m2,m3,m4⟩:=wz.1 h0;have hmf:ki n<=64:=by rw[ki];omega
 simp only[dE]at m2 m3 m4;refine aO ?_;refine ag (vL rfl rfl) (ay ?_);refine ag (da (v:= .agg (cX (⟨2,(max 0 (r.at_.xs.length -1:Int)),r.gen,⟨Sv.none,[]⟩⟩:fe))) rfl (ac0 _ r.gen)) (bt fun b6=>c6 ?_);refine bT (X:=Nat×Sv) (fun zz=>[(24, .int .i64 (zz.1:Nat)),(6, .pointer (some ⟨b6,0,none⟩)),(1, .int .i64 n),(22,r.at_.sv.val),(23, .int .i64 (r.at_.xs.length:Nat))]) (fun zz=>[ar b6 (cX (⟨2,(max 0 (r.at_.xs.length -1:Int)),r.gen,⟨zz.2,gG (r.at_.xs.take zz.1)⟩⟩:fe)) 324,own aN 1 zz.2 (gG (r.at_.xs.take zz.1)),ar b2 (eP r) 314]) (fun zz=>zz.1<=r.at_.xs.length) (fun zz=>r.at_.xs.length -zz.1) (0,Sv.none) (arn _) sb (fun w hw=>by
  simp only[arz,gG,arZ,atW];exact ai.mem (Mem.dH aN 1 hw)) ?_
 rintro⟨i,s1⟩ bc;dsimp only;simp only at bc;refine al ?_;refine Gb (fun h1=>?_) fun h1=>?_
 ·
  obtain⟨y,hy⟩:=get_some (xs:=r.at_.xs) (i:=i) oM;have KR:=Cu.1 (m4 y (anc hy));have fg:gG (r.at_.xs.take (i+1))=gG (r.at_.xs.take i)++[cO (y/256),cO y]:=aaI hy;have sF:=Al (r.at_.xs.take i);have hnt:(r.at_.xs.take i).length<=64:=by rw[aqT];omega
  refine Gc ?_;refine ag (ba rfl rfl i rfl oM) (ag (bL (j:=0) rfl i hy rfl (by decide)) (aO ?_));refine ag (Ry.to (v':= .int .i64 (y/256)) (um (p:=y.toNat) (Eq.trans (b:=some (Value.int .i64 y)) rfl (by rw[arY KR.1])) rfl (by simp only[nb];omega) oM) (by rw[show(8:Int).toNat=8 from rfl];congr 1;omega)) (ag (uk rfl (Aj _)) (Gs ?_));refine ag (uk rfl (Aj _)) ?_;refine lO (enc:=aN) (vals:=[_,_]) [(cO (y/256)),(cO y)] rfl rfl rfl (by decide) (by decide) fun SX=>?_;refine lN (s:=s1) (ys:=[(cO (y/256)),(cO y)]) rfl rfl (by decide) (fun w hw=>ke (s:=⟨false,SX,0,2,2,none⟩) Tryz.underlying53 (by decide) ((inferInstance:Hd _ _ ⟨false,SX,0,2,2,none⟩ aN 1 [(cO (y/256)),(cO y)]).h w hw)) (by simp only[aqQ,aqS];omega) (by simp only[aqQ,aqS];omega) fun SY aoj aok=>?_;refine Gs ?_;refine eN (cs':=cX (⟨2,(max 0 (r.at_.xs.length -1:Int)),r.gen,⟨SY,((gG (r.at_.xs.take i))++[(cO (y/256)),(cO y)])⟩⟩:fe)) rfl rfl (by show 3<4;decide) (by first|rfl|exact Sv.one _) rfl (al ?_);refine Gi ?_;exact bn (x:=(i,s1)) (i+1,SY) (by simp only;omega) (by simp only;omega) sb (fun w hw=>by
   simp only[fg];exact ai.mem hw)
 obtain rfl:i=r.at_.xs.length:=by omega
 rw[ark];refine mo ?_;refine ta [Deep.cc (⟨s1,gG r.at_.xs⟩:Sl UInt8),ar b6 (cX (⟨2,(max 0 (r.at_.xs.length -1:Int)),r.gen,⟨s1,gG r.at_.xs⟩⟩:fe)) 324] (fun w hw=>ai.mem (Mem.Pu (ai.mem hw:Mem _ [own aN 1 s1 (gG r.at_.xs),ar b6 (cX (⟨2,(max 0 (r.at_.xs.length -1:Int)),r.gen,⟨s1,gG r.at_.xs⟩⟩:fe)) 324] _))) (Gi ?_);refine ay ?_;refine bg rfl trivial fun gC C1=>ag (aK (v:=gC.val) rfl rfl) (ag (aK (v:= .int .i64 ((dj (cI (⟨2,(max 0 (r.at_.xs.length -1:Int)),r.gen,⟨s1,gG r.at_.xs⟩⟩:fe)) n).2)) rfl rfl) (al ?_));refine Gr fun w1 hw=>?_;exact⟨gC,by rw[hE];rfl,trivial,by
  have h1:Mem w [own aN 1 gC (dj (cI (⟨2,(max 0 (r.at_.xs.length -1:Int)),r.gen,⟨s1,gG r.at_.xs⟩⟩:fe)) n).1] _:=ai.mem hw;rw[hE];exact h1⟩)⟩
instance aol{xb:Nat}{xc:Cp}{xa:Sl Int}{xg:UInt64}{xl:Int}{xy:Bool}[eo:mD w0 L xb (aM (⟨⟨xc,xa,xg,xl⟩,xy⟩:aQ)) 261][eE:aT w0 L xc]:cd Tryz.prog 176 w0 L [.pointer (some ⟨xb,0,none⟩)] (.int .i64 (mY (cv xc):Nat)) (True):=⟨fun aG w hw=>by
 have eo:=eo.h w hw;have eE:=eE.h w hw;have vl:ru w xb (aM (⟨⟨xc,xa,xg,xl⟩,xy⟩:aQ)) 261:=⟨eo⟩;have vm:cH w xc:=⟨eE⟩;have jz:=eE.1.1.bd;have dP:(cv xc).blocks.length=xc.blocks.xs.length:=gU _;refine cC Tryz.func176 rfl Tryz.ntmps176 rfl ?_;refine rW ?_;refine ag (Ry.to (v':=xc.blocks.sv.val) (nY rfl) rfl) (al ?_);refine bT (X:=Nat) (fun zz=>[(13, .int .i64 (zz:Nat)),(3, .int .i64 ((((iU xc.blocks.xs).take zz).filter fun b=>b.bad).length:Nat)),(11,xc.blocks.sv.val),(12, .int .i64 (xc.blocks.xs.length:Nat))]) (fun zz=>[]) (fun zz=>zz<=xc.blocks.xs.length) (fun zz=>xc.blocks.xs.length -zz) 0 (arn _) sb (fun w hw=>ai.mem hw) ?_;rintro i bc;refine al ?_;refine Gb (fun h0=>?_) fun h0=>?_
 ·
  obtain⟨B,hB⟩:=get_some (xs:=xc.blocks.xs) (i:=i) oM;have sD:Mb B xc.blocks:=⟨List.mem_of_getElem? hB⟩;have fg:=aa7 (mW hB);have hle:(((iU xc.blocks.xs).take i).filter fun b=>b.bad).length<=i:=atu (atk _ _) (by rw[aqT];omega);refine Gc ?_;refine ag (ba rfl rfl i rfl oM) (ag (iK rfl i hB rfl) ?_);have ac1:Mb B xc.blocks:=⟨List.mem_of_getElem? hB⟩;refine bt fun b5=>aO ?_;refine Gb (fun h1=>?_) fun h1=>?_
  ·
   rw[if_pos (show(bv B).bad=true from h1)]at fg;refine Gi ?_;refine aY ?_;refine Gi ?_;exact bn (x:=(i)) (i+1) oF oF (Sub.cons rfl (Sub.cons (look_eq rfl (by rw[fg];rfl)) sb)) (fun w hw=>ai.mem hw)
  rw[if_neg (show ¬(bv B).bad=true by rw[show(bv B).bad=B.bad from rfl,h1];simp)]at fg;refine al ?_;refine Gi ?_;exact bn (x:=(i)) (i+1) oF oF (Sub.cons rfl (Sub.cons (look_eq rfl (by rw[fg,arP])) sb)) (fun w hw=>ai.mem hw)
 obtain rfl:i=xc.blocks.xs.length:=by omega
 have hz:mY (cv xc)=(((iU xc.blocks.xs).take xc.blocks.xs.length).filter fun b=>b.bad).length:=by rw[←dP];exact congrArg (fun l:List BV=>(l.filter fun b=>b.bad).length) (ark).symm
 refine au ?_;refine Gr fun w1 hw=>?_;exact⟨congrArg (fun b=>Ending.returned (Value.int .i64 b)) (by rw[hz]),ai.mem hw⟩⟩
instance aom{xb:Nat}{xc:Cp}{xa:Sl Int}{xg:UInt64}{xl:Int}{xy:Bool}{b:Int}[eo:mD w0 L xb (aM (⟨⟨xc,xa,xg,xl⟩,xy⟩:aQ)) 261][eE:aT w0 L xc]:cd Tryz.prog 219 w0 L [.pointer (some ⟨xb,0,none⟩), .int .i64 b] (.int .i64 (dX (cv xc) b)) (aX (cv xc)=true/\0<=b/\b<(cv xc).blocks.length):=⟨fun aG w hw=>by
 have eo:=eo.h w hw;have eE:=eE.h w hw;have vl:ru w xb (aM (⟨⟨xc,xa,xg,xl⟩,xy⟩:aQ)) 261:=⟨eo⟩;have vm:cH w xc:=⟨eE⟩;obtain⟨hk,qE,tU⟩:=aG;have lF:gg xc:=qp hk;have dP:(cv xc).blocks.length=xc.blocks.xs.length:=gU _;obtain⟨B,hB⟩:=get_some (xs:=xc.blocks.xs) (i:=b.toNat) oM;have sD:Mb B xc.blocks:=⟨List.mem_of_getElem? hB⟩;have eX:=tB hB;have gm:=fc.1 ((fy.1 hk).2.2.2.2 (bv B) (anc (mW hB)));have iB:=lR.1 (fy.1 hk).1;have qF:(ak (cv xc) b).used=B.used:=by rw[eX];rfl
 simp only[bv,cv]at gm iB;refine cQ Tryz.func219 rfl Tryz.ntmps219 rfl ?_;refine fx ?_;refine ag (Ry.to (v':=xc.blocks.sv.val) (nY rfl) rfl) (Gs ?_);refine ag (ba rfl rfl b.toNat oM oM) (ag (iK rfl b.toNat hB rfl) ?_);have Gw:Mb B xc.blocks:=⟨List.mem_of_getElem? hB⟩;refine bt fun b5=>aO ?_;refine Gb (fun h0=>?_) fun h0=>?_
 ·
  refine al ?_;refine Gr fun w1 hw=>?_;exact Gf ((by rw[dX,eX,if_pos (show(bv B).bad=true from h0)])) hw
 refine Gc ?_;refine gO oK oK (aO ?_);refine bH (Ry.to (v':= .int .i64 xc.pages) (nY rfl) rfl) (aO ?_);refine Gr fun w1 hw=>?_;exact⟨congrArg (fun b=>Ending.returned (Value.int .i64 b)) ((by rw[dX,eX,if_neg (show ¬(bv B).bad=true by rw[show(bv B).bad=B.bad from rfl,h0];simp)];rfl)),ai.mem hw⟩⟩
instance aon{er:Int}:cd Tryz.prog 311 w0 L [.int .i64 er] (.int .i64 (jW er)) (True):=⟨fun aG w hw=>by
 refine cC Tryz.func311 rfl Tryz.ntmps311 rfl ?_;refine aY ?_;refine Gb (fun h0=>?_) fun h0=>?_
 ·
  refine al ?_;refine Gr fun w1 hw=>?_;exact Gf ((by rw[jW,if_pos h0])) hw
 refine au ?_;refine Gr fun w1 hw=>?_;exact⟨congrArg (fun b=>Ending.returned (Value.int .i64 b)) ((by rw[jW,if_neg h0])),ai.mem hw⟩⟩
instance aoo{xb:Nat}{xc:Cp}{xa:Sl Int}{xg:UInt64}{xl:Int}{xy:Bool}[eo:mD w0 L xb (aM (⟨⟨xc,xa,xg,xl⟩,xy⟩:aQ)) 261][eE:aT w0 L xc]:cd Tryz.prog 306 w0 L [.pointer (some ⟨xb,0,none⟩)] (.bool (As xg.toNat)) (xg.toNat<281474976710656):=⟨fun aG w hw=>by
 have eo:=eo.h w hw;have eE:=eE.h w hw;have vl:ru w xb (aM (⟨⟨xc,xa,xg,xl⟩,xy⟩:aQ)) 261:=⟨eo⟩;have vm:cH w xc:=⟨eE⟩;refine cC Tryz.func306 rfl Tryz.ntmps306 rfl ?_;refine c6 ?_;refine ag (Ry.to (v':= .int .u64 (xg.toNat:Nat)) (nY rfl) rfl) (ag (BF (p:=xg.toNat) (q:=2) rfl rfl rfl rfl (by simp only[nb];omega)) (al ?_));refine Gr fun w1 hw=>?_;exact⟨congrArg (fun b=>Ending.returned (Value.bool b)) (by rw[As];congr 1;simp only[eq_iff_iff];omega),ai.mem hw⟩⟩
instance aop{xb:Nat}{xc:Cp}{xa:Sl Int}{xg:UInt64}{xl:Int}{xy:Bool}{b:Int}[eo:mD w0 L xb (aM (⟨⟨xc,xa,xg,xl⟩,xy⟩:aQ)) 261][eE:aT w0 L xc]:cd Tryz.prog 251 w0 L [.pointer (some ⟨xb,0,none⟩), .int .i64 b] (.int .u64 ((lz (cv xc) b):Nat)) (aX (cv xc)=true/\0<=b/\b<(cv xc).blocks.length):=⟨fun aG w hw=>by
 have eo:=eo.h w hw;have eE:=eE.h w hw;have vl:ru w xb (aM (⟨⟨xc,xa,xg,xl⟩,xy⟩:aQ)) 261:=⟨eo⟩;have vm:cH w xc:=⟨eE⟩;obtain⟨hk,qE,tU⟩:=aG;have lF:gg xc:=qp hk;have dP:(cv xc).blocks.length=xc.blocks.xs.length:=gU _;obtain⟨B,hB⟩:=get_some (xs:=xc.blocks.xs) (i:=b.toNat) oM;have sD:Mb B xc.blocks:=⟨List.mem_of_getElem? hB⟩;have eX:=tB hB;have gm:=fc.1 ((fy.1 hk).2.2.2.2 (bv B) (anc (mW hB)));have iB:=lR.1 (fy.1 hk).1;have qF:(ak (cv xc) b).used=B.used:=by rw[eX];rfl
 simp only[bv,cv]at gm iB;have iY:=oA B.pages.xs;have hgE:lz (cv xc) b=tC (aL B.pages.xs):=by rw[lz,eX];rfl
 refine cQ Tryz.func251 rfl Tryz.ntmps251 rfl ?_;refine rW ?_;refine ag (Ry.to (v':=xc.blocks.sv.val) (nY rfl) rfl) (Gs ?_);refine ag (ba rfl rfl b.toNat oM oM) (ag (aP rfl rfl) (ag (bL (j:=0) rfl b.toNat hB rfl (by decide)) (al ?_)));refine bT (X:=Nat) (fun zz=>[(21, .int .i64 (zz:Nat)),(5, .int .u64 ((tC ((aL B.pages.xs).take zz)):Nat)),(19,B.pages.sv.val),(20, .int .i64 (B.pages.xs.length:Nat))]) (fun zz=>[]) (fun zz=>zz<=B.pages.xs.length) (fun zz=>B.pages.xs.length -zz) 0 (arn _) sb (fun w hw=>ai.mem hw) ?_;rintro i bc;refine al ?_;refine Gb (fun h0=>?_) fun h0=>?_
 ·
  obtain⟨y,hy⟩:=get_some (xs:=B.pages.xs) (i:=i) oM;have KV:Mb y B.pages:=⟨List.mem_of_getElem? hy⟩;have fg:=aa6 (qm hy);have yw:=JY ((aL B.pages.xs).take i);have wR:=QY y.xs;refine Gc ?_;refine ag (ba rfl rfl i rfl oM) (ag (bL (j:=0) rfl i hy rfl (by decide)) (al ?_));refine bg rfl trivial fun rv tT=>?_;have pP:rv.gen.toNat=(bC y.xs).1.gen:=congrArg RV.gen tT;refine Gs ?_;refine ag (aK (v:= .agg (eP rv)) rfl rfl) (ag (aK (v:= .int .i64 ((bC y.xs).2)) rfl rfl) (bt fun b8=>aY ?_));refine Gb (fun h1=>?_) fun h1=>?_
  ·
   have hr:kJ y.xs=rv.gen.toNat:=by rw[kJ,if_pos h1,←pP]
   refine Gi ?_;refine al ?_;refine ag (vL rfl rfl) (au ?_);refine Gi ?_;exact bn (x:=(i)) (i+1) oF oF (Sub.cons rfl (Sub.cons (look_eq rfl (by rw[fg,hr];congr 1;omega)) sb)) (fun w hw=>ai.mem hw)
  have hr:kJ y.xs=0:=by rw[kJ,if_neg h1]
  refine al ?_;refine Gi ?_;exact bn (x:=(i)) (i+1) oF oF (Sub.cons rfl (Sub.cons (look_eq rfl (by rw[fg,hr];congr 1;omega)) sb)) (fun w hw=>ai.mem hw)
 obtain rfl:i=B.pages.xs.length:=by omega
 have hz:tC (aL B.pages.xs)=(tC ((aL B.pages.xs).take B.pages.xs.length)):=by rw[←iY,ark]
 refine au ?_;refine Gr fun w1 hw=>?_;exact⟨by rw[hgE,hz],ai.mem hw⟩⟩
instance aoq{xb:Nat}{xc:Cp}{xa:Sl Int}{xg:UInt64}{xl:Int}{xy:Bool}{b:Int}[eo:mD w0 L xb (aM (⟨⟨xc,xa,xg,xl⟩,xy⟩:aQ)) 261][eE:aT w0 L xc]:cd Tryz.prog 215 w0 L [.pointer (some ⟨xb,0,none⟩), .int .i64 b] (.bool (CC (cv xc) b)) (aX (cv xc)=true/\0<=b/\b<(cv xc).blocks.length):=⟨fun aG w hw=>by
 have eo:=eo.h w hw;have eE:=eE.h w hw;have vl:ru w xb (aM (⟨⟨xc,xa,xg,xl⟩,xy⟩:aQ)) 261:=⟨eo⟩;have vm:cH w xc:=⟨eE⟩;have ac2:=aG;obtain⟨hk,qE,tU⟩:=aG;have lF:gg xc:=qp hk;have dP:(cv xc).blocks.length=xc.blocks.xs.length:=gU _;obtain⟨B,hB⟩:=get_some (xs:=xc.blocks.xs) (i:=b.toNat) oM;have sD:Mb B xc.blocks:=⟨List.mem_of_getElem? hB⟩;have eX:=tB hB;have gm:=fc.1 ((fy.1 hk).2.2.2.2 (bv B) (anc (mW hB)));have iB:=lR.1 (fy.1 hk).1;have qF:(ak (cv xc) b).used=B.used:=by rw[eX];rfl
 simp only[bv,cv]at gm iB;refine cQ Tryz.func215 rfl Tryz.ntmps215 rfl ?_;refine fx ?_;refine ag (Ry.to (v':=xc.blocks.sv.val) (nY rfl) rfl) (Gs ?_);refine ag (ba rfl rfl b.toNat oM oM) (ag (iK rfl b.toNat hB rfl) ?_);have Gw:Mb B xc.blocks:=⟨List.mem_of_getElem? hB⟩;refine bt fun b5=>ik ?_;refine gE rfl rfl rfl (fun hg=>(Ry.yl (bl (aE hg rfl)))) (ur rfl rfl rfl (fun hg=>(Ry.yl (bl rfl))) (ur rfl rfl rfl (fun hg=>(Ry.yl (et (aE hg rfl) rfl rfl))) (ur rfl rfl rfl (fun hg=>(Ry.yl (bl (aE hg rfl)))) (ob rfl rfl rfl (fun hg=>(Ry.yl (bl rfl))) (ob rfl rfl rfl (fun hg=>(Ry.yl (bl rfl))) (ob rfl rfl rfl (fun hg=>cj (eC (aE hg rfl) (eC (aE hg rfl) iI)) ac2) (ob rfl rfl rfl (fun hg=>(Ry.yl (et (aE hg rfl) rfl rfl))) (ur rfl rfl rfl (fun hg=>(Ry.yl (za (aE hg rfl) (xB hg rfl) rfl))) (gE rfl rfl rfl (fun hg=>(Ry.yl (zb (aE hg rfl) rfl (xB hg rfl)))) (al ?_))))))))));refine Gr fun w1 hw=>?_;exact⟨congrArg (fun b=>Ending.returned (Value.bool b)) ((by
  have e:decide ((0:Int)<((lz (cv xc) b:Nat):Int))=decide (0<lz (cv xc) b):=decide_eq_decide.2 oM;rw[CC,eX,e];rfl)),ai.mem hw⟩⟩
instance aor{xb:Nat}{xc:Cp}{xa:Sl Int}{xg:UInt64}{xl:Int}{xy:Bool}{b:Int}[eo:mD w0 L xb (aM (⟨⟨xc,xa,xg,xl⟩,xy⟩:aQ)) 261][eE:aT w0 L xc]:cd Tryz.prog 217 w0 L [.pointer (some ⟨xb,0,none⟩), .int .i64 b] (.int .u64 ((gA (cv xc) b):Nat)) (aX (cv xc)=true/\2<=(cv xc).blocks.length/\(b=0\/b=1)):=⟨fun aG w hw=>by
 have eo:=eo.h w hw;have eE:=eE.h w hw;have vl:ru w xb (aM (⟨⟨xc,xa,xg,xl⟩,xy⟩:aQ)) 261:=⟨eo⟩;have vm:cH w xc:=⟨eE⟩;obtain⟨hk,nP,SZ⟩:=aG;have yw:=JY (ak (cv xc) (1 -b)).pages;change lz (cv xc) (1 -b)<_ at yw;refine cQ Tryz.func217 rfl Tryz.ntmps217 rfl ?_;refine ik ?_;refine dR (cj rfl ⟨hk,by omega,by omega⟩) (Gs ?_);refine ag (Ry.to (v':= .int .u64 (((1 -b).toNat:Nat):Int)) (H5 rfl oM (by simp only[nb];omega)) (by congr 1;omega)) (ag (BF (p:=(lz (cv xc) (1 -b))) (q:=((1 -b).toNat)) rfl rfl rfl rfl (by simp only[nb];omega)) (ag (vL rfl rfl) (ay ?_)));refine Gr fun w1 hw=>?_;exact⟨by rw[gA];congr 2;omega,ai.mem hw⟩⟩
instance aos{xb:Nat}{xc:Cp}{xa:Sl Int}{xg:UInt64}{xl:Int}{xy:Bool}[eo:mD w0 L xb (aM (⟨⟨xc,xa,xg,xl⟩,xy⟩:aQ)) 261][eE:aT w0 L xc]:cd Tryz.prog 261 w0 L [.pointer (some ⟨xb,0,none⟩)] (.int .i64 (u6 (cv xc) xl)) (aX (cv xc)=true/\2<=(cv xc).blocks.length/\(xl=0\/xl=1)):=⟨fun aG w hw=>by
 have eo:=eo.h w hw;have eE:=eE.h w hw;have vl:ru w xb (aM (⟨⟨xc,xa,xg,xl⟩,xy⟩:aQ)) 261:=⟨eo⟩;have vm:cH w xc:=⟨eE⟩;obtain⟨hk,nP,SZ⟩:=aG;have lF:gg xc:=qp hk;have dP:(cv xc).blocks.length=xc.blocks.xs.length:=gU _;obtain⟨Bo,gm⟩:=get_some (xs:=xc.blocks.xs) (i:=(1 -xl).toNat) oM;obtain⟨Bl,nV⟩:=get_some (xs:=xc.blocks.xs) (i:=xl.toNat) oM;have AS:=tB gm;have S0:=tB nV;refine cC Tryz.func261 rfl Tryz.ntmps261 rfl ?_;refine al ?_;refine gO oK oK (au ?_);refine bH (Ry.to (v':= .int .i64 xl) (nY rfl) rfl) (au ?_);refine bH (Ry.to (v':= .int .i64 xl) (nY rfl) rfl) (ik ?_);refine ag (Ry.to (v':=xc.blocks.sv.val) (nY rfl) rfl) (Gs ?_);refine ag (ba rfl rfl ((1 -xl).toNat) oM oM) (ag (aP rfl rfl) (ag (bL (j:=3) rfl ((1 -xl).toNat) gm rfl (by decide)) (ay ?_)));refine Gb (fun h0=>?_) fun h0=>?_
 ·
  refine al ?_;refine dR (cj rfl ⟨hk,by omega,by omega⟩) (ay ?_);refine Gr fun w1 hw=>?_;exact Gf ((by rw[u6,AS,if_pos (show(bv Bo).bad=true from h0)])) hw
 refine aY ?_;refine ag (Ry.to (v':=xc.blocks.sv.val) (nY rfl) rfl) (Gs ?_);refine ag (ba rfl rfl xl.toNat oM oM) (ag (aP rfl rfl) (ag (bL (j:=3) rfl xl.toNat nV rfl (by decide)) (al ?_)));refine gE rfl rfl rfl (fun hg=>cj (eC (aE hg rfl) (eC (aE hg rfl) iI)) ⟨hk,by omega,by omega⟩) (au ?_);refine Gb (fun h1=>?_) fun h1=>?_
 ·
  refine al ?_;refine dR (cj rfl ⟨hk,by omega,by omega⟩) (ay ?_);refine Gr fun w1 hw=>?_;exact Gf ((by rw[u6,AS,S0,if_neg (show ¬(bv Bo).bad=true by rw[show(bv Bo).bad=Bo.bad from rfl,h0];simp),if_pos ⟨h1.1,h1.2⟩])) hw
 refine aY ?_;refine ag (Ry.to (v':= .int .i64 xc.pages) (nY rfl) rfl) (ay ?_);refine Gr fun w1 hw=>?_;exact⟨congrArg (fun b=>Ending.returned (Value.int .i64 b)) ((by
  rw[u6,AS,S0,if_neg (show ¬(bv Bo).bad=true by rw[show(bv Bo).bad=Bo.bad from rfl,h0];simp),if_neg]
  ·
   rfl
  rintro⟨g1,g2⟩;rcases h1 with h|h
  ·
   exact absurd (h.symm.trans g1) (by simp)
  omega)),ai.mem hw⟩⟩
end Go.Proofs.YtkggjjnhnjjokaaGreatDoor
