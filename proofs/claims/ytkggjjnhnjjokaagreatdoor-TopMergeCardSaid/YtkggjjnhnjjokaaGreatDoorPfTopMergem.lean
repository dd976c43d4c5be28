/- The law TopMerge holds, and its card: what two made of one table, put together, is what the one made of it, with what the other one changed alone; nothing that either left as it was is touched. It holds of all arguments that can be read, where the listed variables of the library hold what the text lays; its arguments read behind the call as they did. -/
import Derived.Test.YtkggjjnhnjjokaaGreatDoorRows
import Derived.Test.YtkggjjnhnjjokaaGreatDoorB7
import Derived.Test.YtkggjjnhnjjokaaGreatDoorB2
import Derived.Test.YtkggjjnhnjjokaaGreatDoorTie
import Derived.Test.YtkggjjnhnjjokaaGreatDoorCards
import Derived.Lib.LaidTab
import Derived.Lib.LaidU8
set_option maxRecDepth 20000
set_option linter.unusedSimpArgs false
set_option linter.unusedVariables false
namespace Go.Proofs.YtkggjjnhnjjokaaGreatDoor
open Go.ay Go.Kb Go.ChangeShapes Go.WideShapes Go.ChangeAt Go.RowKit
def AZ:List (String×DataW Unit):=[("unicode/utf8.acceptRanges",Rows.laid_unicode_utf8_acceptRanges),("unicode/utf8.first",Rows.laid_unicode_utf8_first)]
theorem afH{W:World}(hs:W.ShapedOpen Tryz.prog)(_h:laidMetH Tryz.prog AZ W):pP W:=⟨Tryz.Vo.s1_3 W hs⟩
theorem Tryz.own:ownKnob Tryz.prog.godebug=none:=by kernel_rfl
theorem Tryz.laidOut:laidOutB Tryz.prog=true:=by kernel_rfl
set_option maxRecDepth 100000 in
theorem afI{H:Type}{enc:TypeId×Value->H}(W:World)(base:Nat)(vs:List Value)(hs:W.ShapedOpen Tryz.prog)(hL:laidMetH Tryz.prog AZ W)(hl:vs.length=5)(h: ∀(j:Nat) t v,Tryz.f11.params[j]? =some t->vs[j]? =some v->Arg H enc Tryz.prog W base t v):
  Calls Tryz.prog 11 vs.toArray W fun e W'=>e= .returned (.bool true)/\Mem W [] W':=by
 rw[Tryz.params11]at h;obtain⟨v0,v1,v2,v3,v4,rfl⟩:=Tn hl;obtain⟨x0,rfl,g0⟩:=(h 0 22 v0 rfl rfl).sl Tryz.underlying22 Rt;obtain⟨x1,rfl,g1⟩:=(h 1 22 v1 rfl rfl).sl Tryz.underlying22 Rt;obtain⟨x2,rfl,g2⟩:=(h 2 22 v2 rfl rfl).sl Tryz.underlying22 Rt;obtain⟨x3,rfl,-⟩:=(h 3 25 v3 rfl rfl).agg (inferInstance:dX Tryz.prog 25 _) Key;obtain⟨x4,rfl,b4⟩:=afr (t:=3) Tryz.underlying3 (h 4 3 v4 rfl rfl).ok;exact afo W (tb:=afH hs hL) x0.sv x0.xs x1.sv x1.xs x2.sv x2.xs x3 x4 g0.1 g1.1 g2.1
set_option maxRecDepth 100000 in
theorem afJ(os:Os)(started:os.Started)(H:Type)(enc:TypeId×Value->H):
  ReturnsInHanded {} Tryz.checked os 11 .any (fun w args=>(Rows.topMergeSpec.pre enc Tryz.prog Tryz.f11 Rows.topMergeRow.domain false w args/\laidMetH Tryz.prog AZ w)/\sizedMet enc Tryz.prog Tryz.f11 (OpenSpec.ofChange Rows.topMergeSpec) false w args) (Rows.topMergeSpec.post enc Tryz.prog Tryz.f11 false true false false):=
 afB (C:=Tryz.checked) (laid:=AZ) Tryz.own started (by kernel_rfl) Tryz.func11
  (ChangeSpec.witness_shaped (enc:=enc) (C:=Tryz.checked) (os:=os) (X:=fun w _=>laidMetH Tryz.prog AZ w) false (World.laidAll Tryz.prog os AZ) #[.slice none 0 0, .slice none 0 0, .slice none 0 0, .agg #[.int .u8 0, .int .u8 0, .int .u8 0, .int .u8 0, .int .u8 0, .int .u8 0, .int .u8 0, .int .u8 0, .int .u8 0, .int .u8 0, .int .u8 0, .int .u8 0, .int .u8 0, .int .u8 0, .int .u8 0, .int .u8 0], .int .i64 0] 24 (World.laidAll_os _ _ _)
   (World.shaped_of_ZipB (by kernel_rfl) (by kernel_rfl)) (by kernel_rfl) (by kernel_rfl) (by kernel_rfl)
   (by rw[MakeChecks.laidMetH_plain _ _ _ (by kernel_rfl)];exact laidMet_laidAll _ (by kernel_rfl) (by kernel_rfl)))
  Tryz.laidOut (by kernel_rfl) rfl Tryz.underlying4 rfl (fun ds hd=>by obtain⟨d0,d1,d2,d3,d4,rfl⟩:=Tn (hd.trans (by kernel_rfl));rfl)
  (fun W base vs hs hL hl h=>afI W base vs hs hL (hl.trans (by kernel_rfl)) h)
theorem afK:Tryz.prog.inPlace 11=Rows.topMergeRow.inPlace:=by kernel_rfl
theorem afL:Tryz.prog.unfollowed 11=Rows.topMergeRow.unfollowed:=by kernel_rfl
theorem afM:Tryz.prog.recurses 11=Rows.topMergeRow.recurses:=by kernel_rfl
theorem afN:Tryz.prog.varsNamed 11=Rows.topMergeRow.named:=by kernel_rfl
theorem afO:joinedFacts Tryz.prog 11 Tryz.f11 Rows.topMergeSpec Rows.topMergeRow=true:=by
 unfold joinedFacts;rw[afK,afL,afM,afN];kernel_rfl
theorem afP:Rows.TopMergeSaid:=
 OpenClaim.holds_of_wide 11 Tryz.f11 rfl rfl rfl rfl rfl rfl rfl ⟨rfl,rfl,rfl,rfl,rfl⟩ rfl rfl rfl rfl rfl (by kernel_rfl) Tryz.func11 afO
  (of_decide_eq_true (by kernel_rfl)) (by unfold Func.isWrapper;first|(rw[if_pos (by decide+kernel)];kernel_rfl)|(rw[if_neg (by decide+kernel)];exact⟨rfl,rfl⟩))
  (fun os started H enc _=>afJ os started H enc)
theorem afQ:Rows.topMergeRow.wfByText (OpenSpec.ofChange Rows.topMergeSpec)=true:=by kernel_rfl
theorem afR:Tryz.prog.mainIs=some (true, "52e7e4c474082fcaf5d11505ba5fca5241dca959981d0ff9b7a78ac1e7b0d2be".toList):=by kernel_rfl
theorem afS:Tryz.prog.funcNamed "byway/bywaytop.TopMerge" =some 11:=by kernel_rfl
theorem afT:true=Tryz.prog.looks []:=by kernel_rfl
theorem afU:false=Rows.topMergeRow.goesBy Tryz.prog:=by kernel_rfl
theorem afV:Tryz.prog.wantsStandIn 3=false:=by kernel_rfl
theorem Lh:Tryz.prog.wantsStandIn 22=false:=by kernel_rfl
theorem afW:Tryz.prog.wantsStandIn 25=false:=by kernel_rfl
theorem topMerge_holds:Rows.TopMergeCardSaid:=
 Claim7.holds_tied_plain_at .later [] [.data, .pinned] true (true, "52e7e4c474082fcaf5d11505ba5fca5241dca959981d0ff9b7a78ac1e7b0d2be") true
  afP (fun _ h=>by cases h) afQ (fun _ h=>by cases h) topMerge_row_tie rfl ⟨rfl,rfl⟩ afR rfl
  (fun f fn hf Db=>by
   obtain rfl:f=11:=api (afS.symm.trans hf)|>.symm;obtain rfl:fn=Tryz.f11:=(api (Tryz.func11.symm.trans Db)).symm;exact⟨afT,fun j t ht=>by
    rw[Tryz.params11]at ht;have hm:t∈[22,22,22,25,3]:=by
     obtain⟨hj,e⟩:=aqT.1 ht;rw[←e];exact Array.mem_toList_iff.2 (Array.getElem_mem hj)
    simp only[apn,ar7,or_false]at hm;rcases hm with rfl|rfl|rfl|rfl|rfl
    ·
     exact Lh
    ·
     exact Lh
    ·
     exact Lh
    ·
     exact afW
    exact afV⟩)
  afU
end Go.Proofs.YtkggjjnhnjjokaaGreatDoor
