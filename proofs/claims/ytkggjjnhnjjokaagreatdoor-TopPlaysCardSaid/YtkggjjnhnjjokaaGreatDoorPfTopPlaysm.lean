/- The law TopPlays holds, and its card: a journal of batches, cut anywhere, played into a table, and the same batches, as far as they are whole, put into a fib, are the same, as long as there is room, and each can be made. It holds of all arguments that can be read, where the listed variables of the library hold what the text lays; its arguments read behind the call as they did. -/
import Derived.Test.YtkggjjnhnjjokaaGreatDoorRows
import Derived.Test.YtkggjjnhnjjokaaGreatDoorD8
import Derived.Test.YtkggjjnhnjjokaaGreatDoorD2
import Derived.Test.YtkggjjnhnjjokaaGreatDoorTie
import Derived.Test.YtkggjjnhnjjokaaGreatDoorCards
import Derived.Lib.LaidTab
import Derived.Lib.LaidU8
set_option maxRecDepth 20000
set_option linter.unusedSimpArgs false
set_option linter.unusedVariables false
namespace Go.Proofs.YtkggjjnhnjjokaaGreatDoor
open Go.ax Go.Kb Go.ChangeShapes Go.WideShapes Go.ChangeAt Go.RowKit
def BX:List (String×DataW Unit):=[("unicode/utf8.acceptRanges",Rows.laid_unicode_utf8_acceptRanges),("unicode/utf8.first",Rows.laid_unicode_utf8_first)]
theorem aja{W:World}(hs:W.ShapedOpen Tryz.prog)(_h:laidMetH Tryz.prog BX W):rh W:=⟨Tryz.Y3.s1_3 W hs⟩
theorem Tryz.own:ownKnob Tryz.prog.godebug=none:=by kernel_rfl
theorem Tryz.laidOut:laidOutB Tryz.prog=true:=by kernel_rfl
set_option maxRecDepth 100000 in
theorem ajb{H:Type}{enc:TypeId×Value->H}(W:World)(base:Nat)(vs:List Value)(hs:W.ShapedOpen Tryz.prog)(hL:laidMetH Tryz.prog BX W)(hl:vs.length=4)(h: ∀(j:Nat) t v,Tryz.f9.params[j]? =some t->vs[j]? =some v->Arg H enc Tryz.prog W base t v):
  Calls Tryz.prog 9 vs.toArray W fun e W'=>e= .returned (.bool true)/\Mem W [] W':=by
 rw[Tryz.params9]at h;obtain⟨v0,v1,v2,v3,rfl⟩:=W6 hl;obtain⟨x0,rfl⟩:=W7 (t:=5) Tryz.underlying5 (h 0 5 v0 rfl rfl).ok;obtain⟨x1,rfl⟩:=W7 (t:=5) Tryz.underlying5 (h 1 5 v1 rfl rfl).ok;obtain⟨x2,rfl,g2⟩:=(h 2 105 v2 rfl rfl).sl Tryz.underlying105 (Sl Ch);obtain⟨x3,rfl⟩:=aiU (t:=27) Tryz.underlying27 (h 3 27 v3 rfl rfl).ok;exact aiL W (tb:=aja hs hL) x0 x1 x2 x3 g2
set_option maxRecDepth 100000 in
theorem ajc(os:Os)(started:os.Started)(H:Type)(enc:TypeId×Value->H):
  ReturnsInHanded {} Tryz.checked os 9 .any (fun w args=>(Rows.topPlaysSpec.pre enc Tryz.prog Tryz.f9 Rows.topPlaysRow.domain false w args/\laidMetH Tryz.prog BX w)/\sizedMet enc Tryz.prog Tryz.f9 (OpenSpec.ofChange Rows.topPlaysSpec) false w args) (Rows.topPlaysSpec.post enc Tryz.prog Tryz.f9 false true false false):=
 ai4 (C:=Tryz.checked) (laid:=BX) Tryz.own started (by kernel_rfl) Tryz.func9
  (ChangeSpec.witness_shaped (enc:=enc) (C:=Tryz.checked) (os:=os) (X:=fun w _=>laidMetH Tryz.prog BX w) false (World.laidAll Tryz.prog os BX) #[.int .u8 0, .int .u8 0, .slice none 0 0, .int .u16 0] 24 (World.laidAll_os _ _ _)
   (World.shaped_of_ZipB (by kernel_rfl) (by kernel_rfl)) (by kernel_rfl) (by kernel_rfl) (by kernel_rfl)
   (by rw[MakeChecks.laidMetH_plain _ _ _ (by kernel_rfl)];exact laidMet_laidAll _ (by kernel_rfl) (by kernel_rfl)))
  Tryz.laidOut (by kernel_rfl) rfl Tryz.underlying4 rfl (fun ds hd=>by obtain⟨d0,d1,d2,d3,rfl⟩:=W6 (hd.trans (by kernel_rfl));rfl)
  (fun W base vs hs hL hl h=>ajb W base vs hs hL (hl.trans (by kernel_rfl)) h)
theorem ajd:Tryz.prog.inPlace 9=Rows.topPlaysRow.inPlace:=by kernel_rfl
theorem aje:Tryz.prog.unfollowed 9=Rows.topPlaysRow.unfollowed:=by kernel_rfl
theorem ajf:Tryz.prog.recurses 9=Rows.topPlaysRow.recurses:=by kernel_rfl
theorem ajg:Tryz.prog.varsNamed 9=Rows.topPlaysRow.named:=by kernel_rfl
theorem ajh:joinedFacts Tryz.prog 9 Tryz.f9 Rows.topPlaysSpec Rows.topPlaysRow=true:=by
 unfold joinedFacts;rw[ajd,aje,ajf,ajg];kernel_rfl
theorem aji:Rows.TopPlaysSaid:=
 OpenClaim.holds_of_wide 9 Tryz.f9 rfl rfl rfl rfl rfl rfl rfl ⟨rfl,rfl,rfl,rfl,rfl⟩ rfl rfl rfl rfl rfl (by kernel_rfl) Tryz.func9 ajh
  (of_decide_eq_true (by kernel_rfl)) (by unfold Func.isWrapper;first|(rw[if_pos (by decide+kernel)];kernel_rfl)|(rw[if_neg (by decide+kernel)];exact⟨rfl,rfl⟩))
  (fun os started H enc _=>ajc os started H enc)
theorem ajj:Rows.topPlaysRow.wfByText (OpenSpec.ofChange Rows.topPlaysSpec)=true:=by kernel_rfl
theorem ajk:Tryz.prog.mainIs=some (true, "52e7e4c474082fcaf5d11505ba5fca5241dca959981d0ff9b7a78ac1e7b0d2be".toList):=by kernel_rfl
theorem ajl:Tryz.prog.funcNamed "byway/bywaytop.TopPlays" =some 9:=by kernel_rfl
theorem ajm:true=Tryz.prog.looks []:=by kernel_rfl
theorem ajn:false=Rows.topPlaysRow.goesBy Tryz.prog:=by kernel_rfl
theorem Xc:Tryz.prog.wantsStandIn 5=false:=by kernel_rfl
theorem ajo:Tryz.prog.wantsStandIn 27=false:=by kernel_rfl
theorem ajp:Tryz.prog.wantsStandIn 105=false:=by kernel_rfl
theorem topPlays_holds:Rows.TopPlaysCardSaid:=
 Claim7.holds_tied_plain_at .later [] [.data, .pinned] true (true, "52e7e4c474082fcaf5d11505ba5fca5241dca959981d0ff9b7a78ac1e7b0d2be") true
  aji (fun _ h=>by cases h) ajj (fun _ h=>by cases h) topPlays_row_tie rfl ⟨rfl,rfl⟩ ajk rfl
  (fun f fn hf El=>by
   obtain rfl:f=9:=aso (ajl.symm.trans hf)|>.symm;obtain rfl:fn=Tryz.f9:=(aso (Tryz.func9.symm.trans El)).symm;exact⟨ajm,fun j t ht=>by
    rw[Tryz.params9]at ht;have hm:t∈[5,5,105,27]:=by
     obtain⟨hj,e⟩:=aua.1 ht;rw[←e];exact Array.mem_toList_iff.2 (Array.getElem_mem hj)
    simp only[asw,aui,or_false]at hm;rcases hm with rfl|rfl|rfl|rfl
    ·
     exact Xc
    ·
     exact Xc
    ·
     exact ajp
    exact ajo⟩)
  ajn
end Go.Proofs.YtkggjjnhnjjokaaGreatDoor
