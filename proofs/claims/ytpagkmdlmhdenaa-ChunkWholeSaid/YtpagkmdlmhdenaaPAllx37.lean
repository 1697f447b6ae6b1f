-- Written by a program of the session.
import Derived.Test.YtpagkmdlmhdenaaAlAll
import Derived.Test.YtpagkmdlmhdenaaPAllx0
import Derived.Test.YtpagkmdlmhdenaaPAllx2
import Derived.Test.YtpagkmdlmhdenaaPAllx4
import Derived.Test.YtpagkmdlmhdenaaPAllx15
import Derived.Test.YtpagkmdlmhdenaaPAllx17
import Derived.Test.YtpagkmdlmhdenaaPAllx23
import Derived.Test.YtpagkmdlmhdenaaPAllx24
import Derived.Test.YtpagkmdlmhdenaaPAllx25
import Derived.Test.YtpagkmdlmhdenaaPAllx30
import Derived.Test.YtpagkmdlmhdenaaPAllx32
import Derived.Test.YtpagkmdlmhdenaaPAllx34
namespace Go.Proofs.Ytpagkmdlmhdenaa.PAll
open Go.RowKit Go.Proofs.YtpagkmdlmhdenaaW.PrintWords Go.Proofs.YtpagkmdlmhdenaaW.PrintLast Go.Proofs.YtpagkmdlmhdenaaW.PrintMore
attribute [local go_sem] max2_int min2_int max_two min_two max_three min_three max_four min_four   -- for this text's walks alone
set_option linter.unusedVariables false
set_option linter.unusedSimpArgs false
abbrev z37B0 : Array Bool := #[false,false,false,false,false,false,false,false,false,false,false,false,false,false,false,false,false,false,false,false,false,false]
abbrev z37B1 : Array Bool := #[true,false,false,false,false,false,false,false,false,false,false,false,false,false,false,false,false,false,false,false,false,false]
abbrev z37B2 : Array Bool := #[true,true,false,false,false,false,false,false,false,false,false,false,false,false,false,false,false,false,false,false,false,false]
abbrev z37B3 : Array Bool := #[true,true,true,false,false,false,false,false,false,false,false,false,false,false,false,false,false,false,false,false,false,false]
abbrev z37B4 : Array Bool := #[true,true,true,true,false,false,false,false,false,false,false,false,false,false,false,false,false,false,false,false,false,false]
abbrev z37B5 : Array Bool := #[true,true,true,true,true,false,false,false,false,false,false,false,false,false,false,false,false,false,false,false,false,false]
abbrev z37B6 : Array Bool := #[true,true,true,true,true,true,false,false,false,false,false,false,false,false,false,false,false,false,false,false,false,false]
abbrev z37B7 : Array Bool := #[true,true,true,true,true,true,true,false,false,false,false,false,false,false,false,false,false,false,false,false,false,false]
abbrev z37B8 : Array Bool := #[true,true,true,true,true,true,true,true,false,false,false,false,false,false,false,false,false,false,false,false,false,false]
abbrev z37B9 : Array Bool := #[true,true,true,true,true,true,true,true,true,false,false,false,false,false,false,false,false,false,false,false,false,false]
abbrev z37B10 : Array Bool := #[true,true,true,true,true,true,true,true,true,true,false,false,false,false,false,false,false,false,false,false,false,false]
abbrev z37B11 : Array Bool := #[true,true,true,true,true,true,true,true,true,true,true,false,false,false,false,false,false,false,false,false,false,false]
abbrev z37B12 : Array Bool := #[true,true,true,true,true,true,true,true,true,true,true,true,false,false,false,false,false,false,false,false,false,false]
abbrev z37B13 : Array Bool := #[true,true,true,true,true,true,true,true,true,true,true,true,true,false,false,false,false,false,false,false,false,false]
abbrev z37B14 : Array Bool := #[true,true,true,true,true,true,true,true,true,true,true,true,true,true,false,false,false,false,false,false,false,false]
abbrev z37B15 : Array Bool := #[true,true,true,true,true,true,true,true,true,true,true,true,true,true,true,false,false,false,false,false,false,false]
abbrev z37B16 : Array Bool := #[true,true,true,true,true,true,true,true,true,true,true,true,true,true,true,true,false,false,false,false,false,false]
abbrev z37B17 : Array Bool := #[true,true,true,true,true,true,true,true,true,true,true,true,true,true,true,true,true,false,false,false,false,false]
abbrev z37B18 : Array Bool := #[true,true,true,true,true,true,true,true,true,true,true,true,true,true,true,true,true,true,false,false,false,false]
abbrev z37B19 : Array Bool := #[true,true,true,true,true,true,true,true,true,true,true,true,true,true,true,true,true,true,true,false,false,false]
abbrev z37B20 : Array Bool := #[true,true,true,true,true,true,true,true,true,true,true,true,true,true,true,true,true,true,true,true,false,false]
abbrev z37B21 : Array Bool := #[true,true,true,true,true,true,true,true,true,true,true,true,true,true,true,true,true,true,true,true,true,false]
abbrev z37B22 : Array Bool := #[true,true,true,true,true,true,true,true,true,true,true,true,true,true,true,true,true,true,true,true,true,true]
abbrev z37B23 : Array Bool := #[false,false,false,false,false,false,false,false,false,false,false,false,false,false,false,false,false,false,false,false,false,false,false,false,false,false,false,false]
abbrev z37B24 : Array Bool := #[true,false,false,false,false,false,false,false,false,false,false,false,false,false,false,false,false,false,false,false,false,false,false,false,false,false,false,false]
abbrev z37B25 : Array Bool := #[true,true,false,false,false,false,false,false,false,false,false,false,false,false,false,false,false,false,false,false,false,false,false,false,false,false,false,false]
abbrev z37B26 : Array Bool := #[true,true,true,false,false,false,false,false,false,false,false,false,false,false,false,false,false,false,false,false,false,false,false,false,false,false,false,false]
abbrev z37B27 : Array Bool := #[true,true,true,true,false,false,false,false,false,false,false,false,false,false,false,false,false,false,false,false,false,false,false,false,false,false,false,false]
abbrev z37B28 : Array Bool := #[true,true,true,true,true,false,false,false,false,false,false,false,false,false,false,false,false,false,false,false,false,false,false,false,false,false,false,false]
abbrev z37B29 : Array Bool := #[true,true,true,true,true,true,false,false,false,false,false,false,false,false,false,false,false,false,false,false,false,false,false,false,false,false,false,false]
abbrev z37B30 : Array Bool := #[true,true,true,true,true,true,true,false,false,false,false,false,false,false,false,false,false,false,false,false,false,false,false,false,false,false,false,false]
abbrev z37B31 : Array Bool := #[true,true,true,true,true,true,true,true,false,false,false,false,false,false,false,false,false,false,false,false,false,false,false,false,false,false,false,false]
abbrev z37B32 : Array Bool := #[true,true,true,true,true,true,true,true,true,false,false,false,false,false,false,false,false,false,false,false,false,false,false,false,false,false,false,false]
abbrev z37B33 : Array Bool := #[true,true,true,true,true,true,true,true,true,true,false,false,false,false,false,false,false,false,false,false,false,false,false,false,false,false,false,false]
abbrev z37B34 : Array Bool := #[true,true,true,true,true,true,true,true,true,true,true,false,false,false,false,false,false,false,false,false,false,false,false,false,false,false,false,false]
abbrev z37B35 : Array Bool := #[true,true,true,true,true,true,true,true,true,true,true,true,false,false,false,false,false,false,false,false,false,false,false,false,false,false,false,false]
abbrev z37B36 : Array Bool := #[true,true,true,true,true,true,true,true,true,true,true,true,true,false,false,false,false,false,false,false,false,false,false,false,false,false,false,false]
abbrev z37B37 : Array Bool := #[true,true,true,true,true,true,true,true,true,true,true,true,true,true,false,false,false,false,false,false,false,false,false,false,false,false,false,false]
abbrev z37B38 : Array Bool := #[true,true,true,true,true,true,true,true,true,true,true,true,true,true,false,true,false,false,false,false,false,false,false,false,false,false,false,false]
abbrev z37B39 : Array Bool := #[true,true,true,true,true,true,true,true,true,true,true,true,true,true,true,true,false,false,false,false,false,false,false,false,false,false,false,false]
abbrev z37B40 : Array Bool := #[true,true,true,true,true,true,true,true,true,true,true,true,true,true,true,true,true,false,false,false,false,false,false,false,false,false,false,false]
abbrev z37B41 : Array Bool := #[true,true,true,true,true,true,true,true,true,true,true,true,true,true,true,true,true,true,false,false,false,false,false,false,false,false,false,false]
abbrev z37B42 : Array Bool := #[true,true,true,true,true,true,true,true,true,true,true,true,true,true,true,true,true,true,true,false,false,false,false,false,false,false,false,false]
abbrev z37B43 : Array Bool := #[true,true,true,true,true,true,true,true,true,true,true,true,true,true,true,true,true,true,true,true,false,false,false,false,false,false,false,false]
abbrev z37B44 : Array Bool := #[true,true,true,true,true,true,true,true,true,true,true,true,true,true,true,true,true,true,true,true,true,false,false,false,false,false,false,false]
abbrev z37B45 : Array Bool := #[true,true,true,true,true,true,true,true,true,true,true,true,true,true,true,true,true,true,true,true,true,true,false,false,false,false,false,false]
abbrev z37B46 : Array Bool := #[true,true,true,true,true,true,true,true,true,true,true,true,true,true,true,true,true,true,true,true,true,true,true,false,false,false,false,false]
abbrev z37B47 : Array Bool := #[true,true,true,true,true,true,true,true,true,true,true,true,true,true,true,true,true,true,true,true,true,true,true,true,false,false,false,false]
abbrev z37B48 : Array Bool := #[true,true,true,true,true,true,true,true,true,true,true,true,true,true,true,true,true,true,true,true,true,true,true,true,true,false,false,false]
abbrev z37B49 : Array Bool := #[true,true,true,true,true,true,true,true,true,true,true,true,true,true,true,true,true,true,true,true,true,true,true,true,true,true,false,false]
abbrev z37B50 : Array Bool := #[true,true,true,true,true,true,true,true,true,true,true,true,true,true,true,true,true,true,true,true,true,true,true,true,true,true,true,false]
abbrev z37B51 : Array Bool := #[true,true,true,true,true,true,true,true,true,true,true,true,true,true,true,true,true,true,true,true,true,true,true,true,true,true,true,true]
abbrev z37B52 : Array Bool := #[true,true,true,true,true,true,true,true,true,true,true,true,true,true,true,false,false,false,false,false,false,false,false,false,false,false,false,false]
abbrev z37B53 : Array Bool := #[true,true,true,true,true,true,true,true,true,true,true,true,true,true,true,false,false,false]
/-! ### L_ChunkWhole: function 7 -/
mutual
def L_ChunkWhole.j0 : Nat → Int → Int → List Int → List ByteArray → Bool → Int → Int → List Int → List Int → ByteArray → Option (Bool)
 | 0,_,_,_,_,_,_,_,_,_,_ => none
 | k + 1,x0,x1,x3,x4,mO,aX,aY,aZ,ba,aP => if mO = true then (some true) else ((chunk_Begin.f k x0 x1 aX aY aZ ba aP).bind fun bj => (if bj.2.2.2.2.2.2.2.2.2 = 0 then (L_ChunkWhole.l0 k x3 x4 0 aX aY aZ ba aP bj.1 bj.2.1 bj.2.2.1 bj.2.2.2.1 bj.2.2.2.2.1 bj.2.2.2.2.2.1 bj.2.2.2.2.2.2.1 bj.2.2.2.2.2.2.2.1 bj.2.2.2.2.2.2.2.2.1) else ((L_begins.f k).bind fun dl => (if dl = true then ((L_takes.f k).bind fun cA => (if cA = true then (some (bj.2.2.2.2.2.2.2.2.2 == 150)) else (none))) else (none)))))
def L_ChunkWhole.l0 : Nat → List Int → List ByteArray → Int → Int → Int → List Int → List Int → ByteArray → Int → Int → Int → Int → List Int → List Int → Int → ByteArray → Bool → Option (Bool)
 | 0,_,_,_,_,_,_,_,_,_,_,_,_,_,_,_,_,_ => none
 | k + 1,x3,x4,bQ,aX,aY,aZ,ba,aP,bc,bd,be,bf,bg,bh,bi,aM,bb => if bb = true then (if bQ > 300 then (L_ChunkWhole.j2 k x3 x4 bQ true aX aY aZ ba aP bc bd be bf bg bh bi aM bb) else ((chunk_Check.f k bc bd be bf bg bh bi aM bb).bind fun cB => (if cB = 0 then (if 0 ≤ (mn (aM.size : Int) (aP.size : Int)) then (if (mn (aM.size : Int) (aP.size : Int)) ≤ (aP.size : Int) then (L_ChunkWhole.j2 k x3 x4 bQ (aM.toList != (aP.extract 0 ((mn (aM.size : Int) (aP.size : Int)) : Int).toNat).toList) aX aY aZ ba aP bc bd be bf bg bh bi aM bb) else (none)) else (none)) else (L_ChunkWhole.j2 k x3 x4 bQ true aX aY aZ ba aP bc bd be bf bg bh bi aM bb)))) else ((chunk_Whole.f k bc bd be bf bg bh bi aM bb).bind fun bW => ((L_begins.f k).bind fun dm => (if dm = true then ((L_takes.f k).bind fun cC => (if cC = true then (if bW.2.2.2.2.2 = 0 then ((r08_SameSnap.f k bW.1 bW.2.1 bW.2.2.1 bW.2.2.2.1 bW.2.2.2.2.1 aX aY aZ ba aP).bind fun bZ => (some bZ)) else (none)) else (none))) else (none))))
def L_ChunkWhole.j2 : Nat → List Int → List ByteArray → Int → Bool → Int → Int → List Int → List Int → ByteArray → Int → Int → Int → Int → List Int → List Int → Int → ByteArray → Bool → Option (Bool)
 | 0,_,_,_,_,_,_,_,_,_,_,_,_,_,_,_,_,_,_ => none
 | k + 1,x3,x4,bQ,mP,aX,aY,aZ,ba,aP,bc,bd,be,bf,bg,bh,bi,aM,bb => if mP = true then (none) else (if bQ < (x3.length : Int) then (if bQ < (x4.length : Int) then (if 0 ≤ bQ then (if (rd x3 bQ) = (aM.size : Int) then (L_ChunkWhole.j3 k x3 x4 bQ false aX aY aZ ba aP bc bd be bf bg bh bi aM bb) else (L_ChunkWhole.j3 k x3 x4 bQ (decide (((rdOf ByteArray.empty x4 bQ).size : Int) < 1000)) aX aY aZ ba aP bc bd be bf bg bh bi aM bb)) else (none)) else (L_ChunkWhole.j3 k x3 x4 bQ false aX aY aZ ba aP bc bd be bf bg bh bi aM bb)) else (L_ChunkWhole.j3 k x3 x4 bQ false aX aY aZ ba aP bc bd be bf bg bh bi aM bb))
def L_ChunkWhole.j3 : Nat → List Int → List ByteArray → Int → Bool → Int → Int → List Int → List Int → ByteArray → Int → Int → Int → Int → List Int → List Int → Int → ByteArray → Bool → Option (Bool)
 | 0,_,_,_,_,_,_,_,_,_,_,_,_,_,_,_,_,_,_ => none
 | k + 1,x3,x4,bQ,ja,aX,aY,aZ,ba,aP,bc,bd,be,bf,bg,bh,bi,aM,bb => if ja = true then (if 0 ≤ bQ then (if bQ < (x3.length : Int) then (if bQ < (x4.length : Int) then ((chunk_Take.f k bc bd be bf bg bh bi aM bb (rd x3 bQ) (rdOf ByteArray.empty x4 bQ)).bind fun bk => (if bk.2.2.2.2.2.2.2.2.2.1 = true then (none) else (if bk.2.2.2.2.2.2.2.2.2.2 = 0 then ((r16_Same.f k bc bd be bf bg bh bi aM bb bk.1 bk.2.1 bk.2.2.1 bk.2.2.2.1 bk.2.2.2.2.1 bk.2.2.2.2.2.1 bk.2.2.2.2.2.2.1 bk.2.2.2.2.2.2.2.1 bk.2.2.2.2.2.2.2.2.1).bind fun cW => (if cW = true then (L_ChunkWhole.j4 k x3 x4 bQ aX aY aZ ba aP bc bd be bf bg bh bi aM bb) else (none))) else (none)))) else (none)) else (none)) else (none)) else (L_ChunkWhole.j4 k x3 x4 bQ aX aY aZ ba aP bc bd be bf bg bh bi aM bb)
def L_ChunkWhole.j4 : Nat → List Int → List ByteArray → Int → Int → Int → List Int → List Int → ByteArray → Int → Int → Int → Int → List Int → List Int → Int → ByteArray → Bool → Option (Bool)
 | 0,_,_,_,_,_,_,_,_,_,_,_,_,_,_,_,_,_ => none
 | k + 1,x3,x4,bQ,aX,aY,aZ,ba,aP,bc,bd,be,bf,bg,bh,bi,aM,bb => (chunk_Cut.f aX aY aZ ba aP (aM.size : Int)).bind fun fD => ((chunk_Take.f k bc bd be bf bg bh bi aM bb (aM.size : Int) fD.1).bind fun bl => (if fD.2 = 0 then (if bl.2.2.2.2.2.2.2.2.2.2 = 0 then (if bl.2.2.2.2.2.2.2.2.2.1 = true then (L_ChunkWhole.l0 k x3 x4 (wrap64 (bQ + 1)) aX aY aZ ba aP bl.1 bl.2.1 bl.2.2.1 bl.2.2.2.1 bl.2.2.2.2.1 bl.2.2.2.2.2.1 bl.2.2.2.2.2.2.1 bl.2.2.2.2.2.2.2.1 bl.2.2.2.2.2.2.2.2.1) else (none)) else (none)) else (none)))
end
def L_ChunkWhole.f (k : Nat) (a0 : Int) (a1 : Int) (au : Int) (av : Int) (aq : List Int) (ar : List Int) (an : ByteArray) (l3 : List Int) (l4 : List ByteArray) : Option (Bool) := if (an.size : Int) > 20000 then (L_ChunkWhole.j0 k a0 a1 l3 l4 true au av aq ar an) else ((r08_BigCouncil.f aq ar).bind fun dG => (if dG = true then (L_ChunkWhole.j0 k a0 a1 l3 l4 true au av aq ar an) else (if (l3.length : Int) > 300 then (L_ChunkWhole.j0 k a0 a1 l3 l4 true au av aq ar an) else (L_ChunkWhole.j0 k a0 a1 l3 l4 (decide ((l4.length : Int) > 300)) au av aq ar an))))
def L_ChunkWhole.T9 : Bool × List (List Nat × List Nat) := (true,[([],[]),([0],[0]),([1],[1]),([2],[2]),([3,2,2],[2,3]),([4,2],[2,4]),([2,5],[2,5]),([6,4],[6]),([7],[7]),([8,7],[7,8]),([7],[7]),([10,7],[7,10]),([7],[7]),([12,7],[7,12]),([13,7],[7,13]),([7],[7]),([15,7],[7,15]),([16,7],[7,16]),([14,17,7],[7,14,17]),([11,18,7],[7,11,18]),([9,19,7],[7,9,19]),([7,20],[7,20])])
def L_ChunkWhole.B9 : List Nat := [0,1,3,7,15,31,63,127,255,511,255,1279,255,4351,12543,255,33023,98559,258303,523519,1048575,2097151]
theorem L_ChunkWhole.tab9 : rtab .any (opsOf Try.f7 9) = L_ChunkWhole.T9 := by kernel_rfl
theorem L_ChunkWhole.bits9 : waitsOk L_ChunkWhole.T9.2 L_ChunkWhole.B9 = true := by kernel_rfl
def L_ChunkWhole.T11 : Bool × List (List Nat × List Nat) := (true,[([],[]),([],[]),([1],[1]),([0,2],[0,2]),([3],[3]),([4],[4]),([4],[4]),([6,4],[4,6]),([5,7,4],[4,5,7]),([4,8],[4,8]),([9,4],[9]),([10],[10]),([10],[10]),([11,12,10],[10,11,12]),([13,10],[10,13]),([10],[10]),([15,10],[10,15]),([16,10],[10,16]),([14,17,10],[10,14,17]),([10,18],[10,18]),([19,10],[19]),([20],[20]),([20],[20]),([21,22,20],[20,21,22]),([23,20],[20,23]),([24,20],[20,24]),([25,20],[20,25]),([20,26],[20,26])])
def L_ChunkWhole.B11 : List Nat := [0,0,2,7,15,31,31,95,255,511,1023,2047,2047,8191,16383,2047,34815,100351,262143,524287,1048575,2097151,2097151,8388607,16777215,33554431,67108863,134217727]
theorem L_ChunkWhole.tab11 : rtab .any (opsOf Try.f7 11) = L_ChunkWhole.T11 := by kernel_rfl
theorem L_ChunkWhole.bits11 : waitsOk L_ChunkWhole.T11.2 L_ChunkWhole.B11 = true := by kernel_rfl
def L_ChunkWhole.T12 : Bool × List (List Nat × List Nat) := (true,[([],[]),([],[]),([],[]),([1,2],[1,2]),([3],[3]),([],[]),([],[]),([5,6],[5,6]),([7],[7]),([0,4,8],[0,4,8]),([9],[9]),([10],[10]),([10],[10]),([10],[10]),([],[]),([14,11,9,0,1,2,3,4,5,6,7,8,9,10,11,14],[11,14]),([12,15,0,1,2,3,4,5,6,7,8,9,10,11,12,14,15],[12]),([13,16,0,1,2,3,4,5,6,7,8,9,10,11,12,13,14,15,16],[13])])
def L_ChunkWhole.B12 : List Nat := [0,0,0,6,14,0,0,96,224,511,1023,2047,2047,2047,0,20479,57343,131071]
theorem L_ChunkWhole.tab12 : rtab .any (opsOf Try.f7 12) = L_ChunkWhole.T12 := by kernel_rfl
theorem L_ChunkWhole.bits12 : waitsOk L_ChunkWhole.T12.2 L_ChunkWhole.B12 = true := by kernel_rfl
set_option maxHeartbeats 8000000 in
set_option maxRecDepth 100000 in
theorem L_ChunkWhole.calls (k : Nat) (a0 : Int) (a1 : Int) (au : Int) (av : Int) (aG : Option Addr) (aH : Nat) (aq : List Int) (aI : Option Addr) (aJ : Nat) (ar : List Int) (an : ByteArray) (A3 : Option Addr) (c3 : Nat) (l3 : List Int) (A4 : Option Addr) (c4 : Nat) (l4 : List ByteArray) (r : Bool) (w : World) (fE : Kd.C (Kd.int .i64) w aG aq.length aq) (fF : aq.length ≤ aH) (fG : Kd.C (Kd.int .i64) w aI ar.length ar) (fH : ar.length ≤ aJ) (iJ : Kd.C (Kd.int .i64) w A3 l3.length l3) (iK : l3.length ≤ c3) (iL : Kd.C Kd.string w A4 l4.length l4) (iM : l4.length ≤ c4) (h : L_ChunkWhole.f k a0 a1 au av aq ar an l3 l4 = some r) :
 Calls Try.prog 7 #[.int .i64 a0,.int .i64 a1,.agg #[.int .i64 au,.int .i64 av,.slice aG aq.length aH,.slice aI ar.length aJ,.string an],.slice A3 l3.length c3,.slice A4 l4.length c4] w fun e w' => e = .returned (.bool r) ∧ Below w.heap.size w w' := by
 have hu26 := Try.underlying26
 have hu24 := Try.underlying24
 have hu34 := Try.underlying34
 have dc := zzk fE
 have dd := zzk fF
 clear fE fF
 have de := zzk fG
 have df := zzk fH
 clear fG fH
 have ia := zzk iJ
 have nU := zzk iK
 clear iJ iK
 have iN := zzk iL
 have nV := zzk iM
 clear iL iM
 have HB := zzk (Below.refl w.heap.size w)
 have H : (if (an.size : Int) > 20000 then (L_ChunkWhole.j0 k a0 a1 l3 l4 true au av aq ar an) else ((r08_BigCouncil.f aq ar).bind fun dG => (if dG = true then (L_ChunkWhole.j0 k a0 a1 l3 l4 true au av aq ar an) else (if (l3.length : Int) > 300 then (L_ChunkWhole.j0 k a0 a1 l3 l4 true au av aq ar an) else (L_ChunkWhole.j0 k a0 a1 l3 l4 (decide ((l4.length : Int) > 300)) au av aq ar an))))) = some r := h
 clear h
 have ib := zzk H
 clear H
 go_enter Try.func7,Try.ntmps7
 go_upto_region 1 with (first | ((with_reducible refine Zy (N := 7) rfl ?_); (try (refine Zz (by rfl) ?_; dsimp only)); refine zzc ?hg (N := 7) ?hd (cs := #[.int .i64 au,.int .i64 av,.slice aG aq.length aH,.slice aI ar.length aJ,.string an]) (t := 26) ?hr ?_; (case hd => rfl); (case hg => rfl); (case hr => first | (go_simp; done) | (go_simp; rfl)); intro ao hg w7 hbox hb; have az := zzk (Zs (by repeat (first | (with_reducible first | exact HB.out | apply Zq | apply Zp | apply Zo) | exact HB.out)) hb); have aA := zzk (hbox); have aB := zzk ((by rw [hg]; exact (Zr (by repeat (first | (with_reducible first | exact HB.out | apply Zq | apply Zp | apply Zo) | exact HB.out))) : w.heap.size ≤ ao)); have aC := zzk ((by rw [hg]; exact (Zr (by repeat (first | (with_reducible first | exact HB.out | apply Zq | apply Zp | apply Zo) | exact HB.out))) : w.heap.size ≤ ao)); clear HB; have HB := az; have ac := aA; have np := aB; have ax := aC; clear az aA aB aC; clear hb hbox hg))
 (try simp only [Act.put,za,zb,zc])
 go_cut [42] (fun mQ wc => ∃ (kq : Nat) (dO : Bool),mQ = .bool dO ∧ Aside0 (L_ChunkWhole.j0 kq a0 a1 l3 l4 dO au av aq ar an = some r) ∧ Aside0 (kq ≤ k) ∧ Aside0 (wc.heap[ao]? = some (.cells #[.int .i64 au,.int .i64 av,(.slice aG aq.length aH),(.slice aI ar.length aJ),.string an] 26 (0,0))) ∧ Aside0 (Below w.heap.size w wc))
 case first =>
  have H := ib.out
  clear ib
  by_cases c8 : (an.size : Int) > 20000
  ·
   rw [if_pos c8] at H
   have dw : decide (20000 < (an.size : Int)) = true := zzn c8
   have fq : decide (20000 < an.size) = true := zzn (by omega)
   clear c8
   (first | rw [dw] | (simp only [Zv,Zw]; rw [dw]) | skip)
   have H' := zzk H
   clear H
   have eR : w7.cell? ⟨ao,0,none⟩ = some (.int .i64 au) := (zi ac.out 0).trans rfl
   have eS : w7.cell? ⟨ao,1,none⟩ = some (.int .i64 av) := (zi ac.out 1).trans rfl
   have eT : w7.cell? ⟨ao,2,none⟩ = some (.slice aG aq.length aH) := (zi ac.out 2).trans rfl
   have eU : w7.cell? ⟨ao,3,none⟩ = some (.slice aI ar.length aJ) := (zi ac.out 3).trans rfl
   have eV : w7.cell? ⟨ao,4,none⟩ = some (.string an) := (zi ac.out 4).trans rfl
   have eW := zm ac.out 0
   have eX := zm ac.out 1
   have eY := zm ac.out 2
   have eZ := zm ac.out 3
   have fa := zm ac.out 4
   go_wp2
   go_meet
   case rel => exact ⟨_,(true),(by first | rfl | (simp; done) | (simp [*]; done)),H',⟨by first | omega | exact Nat.le_refl _⟩,⟨by (with_reducible repeat (first | refine zj ?_ _ | refine zl ?_ | refine zk ?_ _)); exact ac.out⟩,⟨by repeat (first | (with_reducible first | exact HB.out | apply Zq | apply Zp | apply Zo | refine Zn ?_ ax.out) | exact HB.out)⟩⟩
  ·
   rw [if_neg c8] at H
   have dw : decide (20000 < (an.size : Int)) = false := zzo c8
   have fq : decide (20000 < an.size) = false := zzo (by omega)
   clear c8
   (first | rw [dw] | (simp only [Zv,Zw]; rw [dw]) | skip)
   replace H := Option.bind_eq_some_iff.mp H
   obtain ⟨dG,ic,H⟩ := H
   replace H : (if dG = true then (L_ChunkWhole.j0 k a0 a1 l3 l4 true au av aq ar an) else (if (l3.length : Int) > 300 then (L_ChunkWhole.j0 k a0 a1 l3 l4 true au av aq ar an) else (L_ChunkWhole.j0 k a0 a1 l3 l4 (decide ((l4.length : Int) > 300)) au av aq ar an))) = some r := H
   have ie := zzk ic
   clear ic
   by_cases dY : dG = true
   ·
    subst dY
    have H1 : (L_ChunkWhole.j0 k a0 a1 l3 l4 true au av aq ar an) = some r := by rw [if_pos rfl] at H; exact H
    clear H
    have H := H1
    clear H1
    have H' := zzk H
    clear H
    have dZ : w7.cell? ⟨ao,0,none⟩ = some (.int .i64 au) := (zi ac.out 0).trans rfl
    have ea : w7.cell? ⟨ao,1,none⟩ = some (.int .i64 av) := (zi ac.out 1).trans rfl
    have eb : w7.cell? ⟨ao,2,none⟩ = some (.slice aG aq.length aH) := (zi ac.out 2).trans rfl
    have ec : w7.cell? ⟨ao,3,none⟩ = some (.slice aI ar.length aJ) := (zi ac.out 3).trans rfl
    have ed : w7.cell? ⟨ao,4,none⟩ = some (.string an) := (zi ac.out 4).trans rfl
    have ee := zm ac.out 0
    have ef := zm ac.out 1
    have eg := zm ac.out 2
    have eh := zm ac.out 3
    have ei := zm ac.out 4
    go_wp2_with (first | (go_at_call 12; (with_reducible refine (r08_BigCouncil.calls _ _ aq _ _ ar true _ ?side1 ?side2 ?side3 ?side4 ie.out).mono ?_); (case side1 => repeat (first | exact (Zm dc.out HB.out) | (with_reducible refine Zk ?_ _) | (with_reducible refine Zj ?_ _) | (with_reducible refine Zl ?_))); (case side2 => exact dd.out); (case side3 => repeat (first | exact (Zm de.out HB.out) | (with_reducible refine Zk ?_ _) | (with_reducible refine Zj ?_ _) | (with_reducible refine Zl ?_))); (case side4 => exact df.out); rintro e nW ⟨rfl,hb⟩; have az := zzk (zo (g := ao) (o := .cells #[.int .i64 au,.int .i64 av,.slice aG aq.length aH,.slice aI ar.length aJ,.string an] 26 (0,0)) (by (with_reducible repeat (first | refine zj ?_ _ | refine zl ?_ | refine zk ?_ _)); exact ac.out) hb); have aA := zzk (Zs (by repeat (first | (with_reducible first | exact HB.out | apply Zq | apply Zp | apply Zo | refine Zn ?_ ax.out) | exact HB.out)) hb); clear ac; clear HB; have ac := az; have HB := aA; clear az aA; (try clear hb); (try clear hb2); (try clear hk); (try clear hi)))
    go_meet
    case rel => exact ⟨_,(true),(by first | rfl | (simp; done) | (simp [*]; done)),H',⟨by first | omega | exact Nat.le_refl _⟩,⟨by (with_reducible repeat (first | refine zj ?_ _ | refine zl ?_ | refine zk ?_ _)); exact ac.out⟩,⟨by repeat (first | (with_reducible first | exact HB.out | apply Zq | apply Zp | apply Zo | refine Zn ?_ ax.out) | exact HB.out)⟩⟩
   ·
    replace dY := Bool.eq_false_iff.mpr dY
    subst dY
    have H1 : (if (l3.length : Int) > 300 then (L_ChunkWhole.j0 k a0 a1 l3 l4 true au av aq ar an) else (L_ChunkWhole.j0 k a0 a1 l3 l4 (decide ((l4.length : Int) > 300)) au av aq ar an)) = some r := by rw [if_neg (show ¬ (false = true) by decide)] at H; exact H
    clear H
    have H := H1
    clear H1
    by_cases dL : (l3.length : Int) > 300
    ·
     rw [if_pos dL] at H
     have eH : decide (300 < (l3.length : Int)) = true := zzn dL
     have eI : decide (300 < l3.length) = true := zzn (by omega)
     clear dL
     have H' := zzk H
     clear H
     have ej : w7.cell? ⟨ao,0,none⟩ = some (.int .i64 au) := (zi ac.out 0).trans rfl
     have ek : w7.cell? ⟨ao,1,none⟩ = some (.int .i64 av) := (zi ac.out 1).trans rfl
     have el : w7.cell? ⟨ao,2,none⟩ = some (.slice aG aq.length aH) := (zi ac.out 2).trans rfl
     have em : w7.cell? ⟨ao,3,none⟩ = some (.slice aI ar.length aJ) := (zi ac.out 3).trans rfl
     have en : w7.cell? ⟨ao,4,none⟩ = some (.string an) := (zi ac.out 4).trans rfl
     have eo := zm ac.out 0
     have ep := zm ac.out 1
     have er := zm ac.out 2
     have es := zm ac.out 3
     have et := zm ac.out 4
     go_wp2_with (first | (go_at_call 12; (with_reducible refine (r08_BigCouncil.calls _ _ aq _ _ ar false _ ?side1 ?side2 ?side3 ?side4 ie.out).mono ?_); (case side1 => repeat (first | exact (Zm dc.out HB.out) | (with_reducible refine Zk ?_ _) | (with_reducible refine Zj ?_ _) | (with_reducible refine Zl ?_))); (case side2 => exact dd.out); (case side3 => repeat (first | exact (Zm de.out HB.out) | (with_reducible refine Zk ?_ _) | (with_reducible refine Zj ?_ _) | (with_reducible refine Zl ?_))); (case side4 => exact df.out); rintro e nX ⟨rfl,hb⟩; have az := zzk (zo (g := ao) (o := .cells #[.int .i64 au,.int .i64 av,.slice aG aq.length aH,.slice aI ar.length aJ,.string an] 26 (0,0)) (by (with_reducible repeat (first | refine zj ?_ _ | refine zl ?_ | refine zk ?_ _)); exact ac.out) hb); have aA := zzk (Zs (by repeat (first | (with_reducible first | exact HB.out | apply Zq | apply Zp | apply Zo | refine Zn ?_ ax.out) | exact HB.out)) hb); clear ac; clear HB; have ac := az; have HB := aA; clear az aA; (try clear hb); (try clear hb2); (try clear hk); (try clear hi)))
     go_meet
     case rel => exact ⟨_,(true),(by first | rfl | (simp; done) | (simp [*]; done)),H',⟨by first | omega | exact Nat.le_refl _⟩,⟨by (with_reducible repeat (first | refine zj ?_ _ | refine zl ?_ | refine zk ?_ _)); exact ac.out⟩,⟨by repeat (first | (with_reducible first | exact HB.out | apply Zq | apply Zp | apply Zo | refine Zn ?_ ax.out) | exact HB.out)⟩⟩
    ·
     rw [if_neg dL] at H
     have eH : decide (300 < (l3.length : Int)) = false := zzo dL
     have eI : decide (300 < l3.length) = false := zzo (by omega)
     clear dL
     have H' := zzk H
     clear H
     have eu : w7.cell? ⟨ao,0,none⟩ = some (.int .i64 au) := (zi ac.out 0).trans rfl
     have ev : w7.cell? ⟨ao,1,none⟩ = some (.int .i64 av) := (zi ac.out 1).trans rfl
     have ew : w7.cell? ⟨ao,2,none⟩ = some (.slice aG aq.length aH) := (zi ac.out 2).trans rfl
     have ex : w7.cell? ⟨ao,3,none⟩ = some (.slice aI ar.length aJ) := (zi ac.out 3).trans rfl
     have ey : w7.cell? ⟨ao,4,none⟩ = some (.string an) := (zi ac.out 4).trans rfl
     have ez := zm ac.out 0
     have eA := zm ac.out 1
     have eB := zm ac.out 2
     have eC := zm ac.out 3
     have eD := zm ac.out 4
     go_wp2_with (first | (go_at_call 12; (with_reducible refine (r08_BigCouncil.calls _ _ aq _ _ ar false _ ?side1 ?side2 ?side3 ?side4 ie.out).mono ?_); (case side1 => repeat (first | exact (Zm dc.out HB.out) | (with_reducible refine Zk ?_ _) | (with_reducible refine Zj ?_ _) | (with_reducible refine Zl ?_))); (case side2 => exact dd.out); (case side3 => repeat (first | exact (Zm de.out HB.out) | (with_reducible refine Zk ?_ _) | (with_reducible refine Zj ?_ _) | (with_reducible refine Zl ?_))); (case side4 => exact df.out); rintro e nY ⟨rfl,hb⟩; have az := zzk (zo (g := ao) (o := .cells #[.int .i64 au,.int .i64 av,.slice aG aq.length aH,.slice aI ar.length aJ,.string an] 26 (0,0)) (by (with_reducible repeat (first | refine zj ?_ _ | refine zl ?_ | refine zk ?_ _)); exact ac.out) hb); have aA := zzk (Zs (by repeat (first | (with_reducible first | exact HB.out | apply Zq | apply Zp | apply Zo | refine Zn ?_ ax.out) | exact HB.out)) hb); clear ac; clear HB; have ac := az; have HB := aA; clear az aA; (try clear hb); (try clear hb2); (try clear hk); (try clear hi)))
     go_meet
     case rel => exact ⟨_,(decide ((l4.length : Int) > 300)),(by first | rfl | (simp; done) | (simp [*]; done)),H',⟨by first | omega | exact Nat.le_refl _⟩,⟨by (with_reducible repeat (first | refine zj ?_ _ | refine zl ?_ | refine zk ?_ _)); exact ac.out⟩,⟨by repeat (first | (with_reducible first | exact HB.out | apply Zq | apply Zp | apply Zo | refine Zn ?_ ax.out) | exact HB.out)⟩⟩
 case rest =>
  clear ib
  try clear c1
  try clear c2
  try clear p2
  try clear c3
  try clear c4
  try clear c7
  try clear c8
  try clear dw
  try clear fq
  try clear dY
  try clear dL
  try clear eH
  try clear eI
  try clear dZ
  try clear ea
  try clear eb
  try clear ec
  try clear ed
  try clear ej
  try clear ek
  try clear el
  try clear em
  try clear en
  try clear eu
  try clear ev
  try clear ew
  try clear ex
  try clear ey
  try clear eR
  try clear eS
  try clear eT
  try clear eU
  try clear eV
  try clear ee
  try clear ef
  try clear eg
  try clear eh
  try clear ei
  try clear eo
  try clear ep
  try clear er
  try clear es
  try clear et
  try clear ez
  try clear eA
  try clear eB
  try clear eC
  try clear eD
  try clear eW
  try clear eX
  try clear eY
  try clear eZ
  try clear fa
  obtain ⟨kq,dO,rfl,HA,HJ5,ac,HB⟩ := hcut
  cases kq with
  | zero => exact absurd HA.out (by simp [L_ChunkWhole.j0])
  | succ cJ =>
   have H := HA.out
   clear HA
   simp only [L_ChunkWhole.j0] at H
   by_cases fb : dO = true
   ·
    subst fb
    have H1 : (some true) = some r := by rw [if_pos rfl] at H; exact H
    clear H
    have H := H1
    clear H1
    obtain rfl := zzu H
    go_wp2
    go_ret
    exact ⟨by first | rfl | (simp [zzl,zzm] <;> rfl) | (simp [*,zzl,zzm] <;> rfl),by repeat (first | (with_reducible first | exact HB.out | apply Zq | apply Zp | apply Zo | refine Zn ?_ ax.out) | exact HB.out)⟩
   ·
    replace fb := Bool.eq_false_iff.mpr fb
    subst fb
    have H1 : ((chunk_Begin.f cJ a0 a1 au av aq ar an).bind fun bj => (if bj.2.2.2.2.2.2.2.2.2 = 0 then (L_ChunkWhole.l0 cJ l3 l4 0 au av aq ar an bj.1 bj.2.1 bj.2.2.1 bj.2.2.2.1 bj.2.2.2.2.1 bj.2.2.2.2.2.1 bj.2.2.2.2.2.2.1 bj.2.2.2.2.2.2.2.1 bj.2.2.2.2.2.2.2.2.1) else ((L_begins.f cJ).bind fun dl => (if dl = true then ((L_takes.f cJ).bind fun cA => (if cA = true then (some (bj.2.2.2.2.2.2.2.2.2 == 150)) else (none))) else (none))))) = some r := by rw [if_neg (show ¬ (false = true) by decide)] at H; exact H
    clear H
    have H := H1
    clear H1
    replace H := Option.bind_eq_some_iff.mp H
    obtain ⟨⟨br,bv,bD,bH,bI,bR,cm,cD,cX,cv⟩,ig,H⟩ := H
    replace H : (if cv = 0 then (L_ChunkWhole.l0 cJ l3 l4 0 au av aq ar an br bv bD bH bI bR cm cD cX) else ((L_begins.f cJ).bind fun dl => (if dl = true then ((L_takes.f cJ).bind fun cA => (if cA = true then (some (cv == 150)) else (none))) else (none)))) = some r := H
    have iO := zzk ig
    clear ig
    by_cases dM : cv = 0
    ·
     rw [if_pos dM] at H
     have fI : (cv == 0) = true := beq_iff_eq.mpr dM
     have fJ : (cv != 0) = false := bne_eq_false_iff_eq.mpr dM
     clear dM
     have H' := zzk H
     clear H
     have fZ : wc.cell? ⟨ao,0,none⟩ = some (.int .i64 au) := (zi ac.out 0).trans rfl
     have ga : wc.cell? ⟨ao,1,none⟩ = some (.int .i64 av) := (zi ac.out 1).trans rfl
     have gb : wc.cell? ⟨ao,2,none⟩ = some (.slice aG aq.length aH) := (zi ac.out 2).trans rfl
     have gc : wc.cell? ⟨ao,3,none⟩ = some (.slice aI ar.length aJ) := (zi ac.out 3).trans rfl
     have gd : wc.cell? ⟨ao,4,none⟩ = some (.string an) := (zi ac.out 4).trans rfl
     have gf := zm ac.out 0
     have gg := zm ac.out 1
     have gh := zm ac.out 2
     have gi := zm ac.out 3
     have gj := zm ac.out 4
     go_wp2_with (first | ((with_reducible refine zza (f := 14) rfl ?_); refine zzd (some 47) rfl rfl Try.func14 (by kernel_rfl) rfl #[.int .i64 a0,.int .i64 a1,.agg #[.int .i64 au,.int .i64 av,.slice aG aq.length aH,.slice aI ar.length aJ,.string an]] rfl (by (try simp only [zd,ze,zf]); first | done | rfl | (simp only [zg,zh]; rfl)) ?_; (with_reducible refine (chunk_Begin.calls cJ a0 a1 au av _ _ aq _ _ ar an br bv bD bH bI bR cm cD cX cv _ ?side1 ?side2 ?side3 ?side4 iO.out).mono ?_); (case side1 => repeat (first | exact (Zm dc.out HB.out) | (with_reducible refine Zk ?_ _) | (with_reducible refine Zj ?_ _) | (with_reducible refine Zl ?_))); (case side2 => exact dd.out); (case side3 => repeat (first | exact (Zm de.out HB.out) | (with_reducible refine Zk ?_ _) | (with_reducible refine Zj ?_ _) | (with_reducible refine Zl ?_))); (case side4 => exact df.out); rintro e nZ ⟨jb,jc,rfl,ho0,ho1,hb⟩; refine ⟨_,rfl,?_⟩; have az := zzk (Za ho0 (Zr (by repeat (first | (with_reducible first | exact HB.out | apply Zq | apply Zp | apply Zo | refine Zn ?_ ax.out) | exact HB.out)))); have aA := zzk (Za ho1 (Zr (by repeat (first | (with_reducible first | exact HB.out | apply Zq | apply Zp | apply Zo | refine Zn ?_ ax.out) | exact HB.out)))); have aB := zzk (zo (g := ao) (o := .cells #[.int .i64 au,.int .i64 av,.slice aG aq.length aH,.slice aI ar.length aJ,.string an] 26 (0,0)) (by (with_reducible repeat (first | refine zj ?_ _ | refine zl ?_ | refine zk ?_ _)); exact ac.out) hb); have aC := zzk (Zs (by repeat (first | (with_reducible first | exact HB.out | apply Zq | apply Zp | apply Zo | refine Zn ?_ ax.out) | exact HB.out)) hb); clear ac; clear HB; have bF := az; have bG := aA; have ac := aB; have HB := aC; clear az aA aB aC; (try clear hb); (try clear hb2); (try clear hk); (try clear hi); (try clear ho0); (try clear ho1)) | ((with_reducible refine Zy (N := 11) rfl ?_); (try (refine Zz (by rfl) ?_; dsimp only)); refine zzc ?hg (N := 11) ?hd (cs := #[.int .i64 0,.int .i64 0,.int .i64 0,.int .i64 0,.slice none 0 0,.slice none 0 0,.int .i64 0,.string (⟨#[]⟩ : ByteArray),.bool false]) (t := 34) ?hr ?_; (case hd => rfl); (case hg => rfl); (case hr => first | (go_simp; done) | (go_simp; rfl)); intro ab hg dA hbox hb; have az := zzk (zv (by (with_reducible repeat (first | apply zu | apply zt | apply zs)); exact bF.out) hb); have aA := zzk (zv (by (with_reducible repeat (first | apply zu | apply zt | apply zs)); exact bG.out) hb); have aB := zzk (zo (g := ao) (o := .cells #[.int .i64 au,.int .i64 av,.slice aG aq.length aH,.slice aI ar.length aJ,.string an] 26 (0,0)) (by (with_reducible repeat (first | refine zj ?_ _ | refine zl ?_ | refine zk ?_ _)); exact ac.out) hb); have aC := zzk (Zs (by repeat (first | (with_reducible first | exact HB.out | apply Zq | apply Zp | apply Zo | refine Zn ?_ ax.out) | exact HB.out)) hb); have aE := zzk (hbox); have aT := zzk ((by rw [hg]; exact (Zr (by repeat (first | (with_reducible first | exact HB.out | apply Zq | apply Zp | apply Zo | refine Zn ?_ ax.out) | exact HB.out))) : w.heap.size ≤ ab)); have aU := zzk ((by rw [hg]; exact (Zr (by repeat (first | (with_reducible first | exact HB.out | apply Zq | apply Zp | apply Zo | refine Zn ?_ ax.out) | exact HB.out))) : w.heap.size ≤ ab)); have bs := zzk ((by rw [hg]; exact Nat.ne_of_lt (zq (g := ao) (o := .cells #[.int .i64 au,.int .i64 av,.slice aG aq.length aH,.slice aI ar.length aJ,.string an] 26 (0,0)) (by (with_reducible repeat (first | refine zj ?_ _ | refine zl ?_ | refine zk ?_ _)); exact ac.out)) : ao ≠ ab)); have cj := zzk ((by rw [hg]; exact Nat.ne_of_gt (zq (g := ao) (o := .cells #[.int .i64 au,.int .i64 av,.slice aG aq.length aH,.slice aI ar.length aJ,.string an] 26 (0,0)) (by (with_reducible repeat (first | refine zj ?_ _ | refine zl ?_ | refine zk ?_ _)); exact ac.out)) : ab ≠ ao)); clear bF; clear bG; clear ac; clear HB; have bF := az; have bG := aA; have ac := aB; have HB := aC; have aa := aE; have ix := aT; have aF := aU; have ay := bs; have bS := cj; clear az aA aB aC aE aT aU bs cj; clear hb hbox hg; have nq := bS.out; have nr := ay.out; have gl : dA.cell? ⟨ab,0,none⟩ = some (.int .i64 0) := (zi aa.out 0).trans rfl; have gm : dA.cell? ⟨ab,1,none⟩ = some (.int .i64 0) := (zi aa.out 1).trans rfl; have gn : dA.cell? ⟨ab,2,none⟩ = some (.int .i64 0) := (zi aa.out 2).trans rfl; have gp : dA.cell? ⟨ab,3,none⟩ = some (.int .i64 0) := (zi aa.out 3).trans rfl; have gq : dA.cell? ⟨ab,4,none⟩ = some (.slice none 0 0) := (zi aa.out 4).trans rfl; have gr : dA.cell? ⟨ab,5,none⟩ = some (.slice none 0 0) := (zi aa.out 5).trans rfl; have gs : dA.cell? ⟨ab,6,none⟩ = some (.int .i64 0) := (zi aa.out 6).trans rfl; have gu : dA.cell? ⟨ab,7,none⟩ = some (.string (⟨#[]⟩ : ByteArray)) := (zi aa.out 7).trans rfl; have gv : dA.cell? ⟨ab,8,none⟩ = some (.bool false) := (zi aa.out 8).trans rfl; have gw := zm aa.out 0; have gx := zm aa.out 1; have gy := zm aa.out 2; have gz := zm aa.out 3; have gA := zm aa.out 4; have gB := zm aa.out 5; have gC := zm aa.out 6; have gD := zm aa.out 7; have gE := zm aa.out 8; obtain ⟨dx,dy,eo27⟩ := zz bF.out; subst eo27; obtain ⟨dH,dI,eo28⟩ := zz bG.out; subst eo28))
     go_loopg [13] cJ (fun kq mR w' => ∃ (ap : Int) (am : Int) (al : Int) (ak : Int) (aj : Int) (ah : List Int) (ag : List Int) (ai : Int) (ae : ByteArray) (cM : Bool) (aQ : Value) (aR : Value),mR = .int .i64 ap ∧ Aside0 (L_ChunkWhole.l0 kq l3 l4 ap au av aq ar an am al ak aj ah ag ai ae cM = some r) ∧ Aside0 (kq ≤ cJ) ∧ Aside0 (Kd.R (Kd.int .i64) 3 w' w.heap.size (fun k_ => some k_ ≠ (aR : Value).ownBlock) aQ ah) ∧ Aside0 (Kd.R (Kd.int .i64) 3 w' w.heap.size (fun k_ => some k_ ≠ (aQ : Value).ownBlock) aR ag) ∧ Aside0 (w'.heap[ao]? = some (.cells #[.int .i64 au,.int .i64 av,(.slice aG aq.length aH),(.slice aI ar.length aJ),.string an] 26 (0,0))) ∧ Aside0 (w'.heap[ab]? = some (.cells #[.int .i64 am,.int .i64 al,.int .i64 ak,.int .i64 aj,aQ,aR,.int .i64 ai,.string ae,.bool cM] 34 (0,0))) ∧ Aside0 (Below w.heap.size w w'))
     case atStart => exact ⟨(0),(br),(bv),(bD),(bH),(bI),(bR),(cm),(cD),(cX),(.slice dx bI.length dy),(.slice dH bR.length dI),(by first | rfl | (simp; done) | (simp [*]; done)),H',⟨Nat.le_refl _⟩,⟨by (with_reducible repeat (first | apply zu | apply zt | apply zs)); exact zx (zr (p := ⟨ab,8,none⟩) (zr (p := ⟨ab,7,none⟩) (zr (p := ⟨ab,6,none⟩) (zr (p := ⟨ab,5,none⟩) (zr (p := ⟨ab,4,none⟩) (zr (p := ⟨ab,3,none⟩) (zr (p := ⟨ab,2,none⟩) (zr (p := ⟨ab,1,none⟩) (zr (p := ⟨ab,0,none⟩) (zy bF.out aa.out (by decide)) (fun _ hk => hk.2) (.int .i64 br)) (fun _ hk => hk.2) (.int .i64 bv)) (fun _ hk => hk.2) (.int .i64 bD)) (fun _ hk => hk.2) (.int .i64 bH)) (fun _ hk => hk.2) (.slice dx bI.length dy)) (fun _ hk => hk.2) (.slice dH bR.length dI)) (fun _ hk => hk.2) (.int .i64 cm)) (fun _ hk => hk.2) (.string cD)) (fun _ hk => hk.2) (.bool cX)) (fun _ hk => hk.1)⟩,⟨by (with_reducible repeat (first | apply zu | apply zt | apply zs)); exact zx (zr (p := ⟨ab,8,none⟩) (zr (p := ⟨ab,7,none⟩) (zr (p := ⟨ab,6,none⟩) (zr (p := ⟨ab,5,none⟩) (zr (p := ⟨ab,4,none⟩) (zr (p := ⟨ab,3,none⟩) (zr (p := ⟨ab,2,none⟩) (zr (p := ⟨ab,1,none⟩) (zr (p := ⟨ab,0,none⟩) (zy bG.out aa.out (by decide)) (fun _ hk => hk.2) (.int .i64 br)) (fun _ hk => hk.2) (.int .i64 bv)) (fun _ hk => hk.2) (.int .i64 bD)) (fun _ hk => hk.2) (.int .i64 bH)) (fun _ hk => hk.2) (.slice dx bI.length dy)) (fun _ hk => hk.2) (.slice dH bR.length dI)) (fun _ hk => hk.2) (.int .i64 cm)) (fun _ hk => hk.2) (.string cD)) (fun _ hk => hk.2) (.bool cX)) (fun _ hk => hk.1)⟩,⟨by (with_reducible repeat (first | refine zj ?_ _ | refine zl ?_ | refine zk ?_ _)); refine zn ?_ ay.out _; (with_reducible repeat (first | refine zj ?_ _ | refine zl ?_ | refine zk ?_ _)); refine zn ?_ ay.out _; (with_reducible repeat (first | refine zj ?_ _ | refine zl ?_ | refine zk ?_ _)); refine zn ?_ ay.out _; (with_reducible repeat (first | refine zj ?_ _ | refine zl ?_ | refine zk ?_ _)); refine zn ?_ ay.out _; (with_reducible repeat (first | refine zj ?_ _ | refine zl ?_ | refine zk ?_ _)); refine zn ?_ ay.out _; (with_reducible repeat (first | refine zj ?_ _ | refine zl ?_ | refine zk ?_ _)); refine zn ?_ ay.out _; (with_reducible repeat (first | refine zj ?_ _ | refine zl ?_ | refine zk ?_ _)); refine zn ?_ ay.out _; (with_reducible repeat (first | refine zj ?_ _ | refine zl ?_ | refine zk ?_ _)); refine zn ?_ ay.out _; (with_reducible repeat (first | refine zj ?_ _ | refine zl ?_ | refine zk ?_ _)); refine zn ?_ ay.out _; (with_reducible repeat (first | refine zj ?_ _ | refine zl ?_ | refine zk ?_ _)); exact ac.out⟩,⟨by (with_reducible repeat (first | refine zj ?_ _ | refine zl ?_ | refine zk ?_ _)); refine zp (cs := #[.int .i64 br,.int .i64 bv,.int .i64 bD,.int .i64 bH,.slice dx bI.length dy,.slice dH bR.length dI,.int .i64 cm,.string cD,.bool false]) ?_ 8 _ rfl; (with_reducible repeat (first | refine zj ?_ _ | refine zl ?_ | refine zk ?_ _)); refine zp (cs := #[.int .i64 br,.int .i64 bv,.int .i64 bD,.int .i64 bH,.slice dx bI.length dy,.slice dH bR.length dI,.int .i64 cm,.string (⟨#[]⟩ : ByteArray),.bool false]) ?_ 7 _ rfl; (with_reducible repeat (first | refine zj ?_ _ | refine zl ?_ | refine zk ?_ _)); refine zp (cs := #[.int .i64 br,.int .i64 bv,.int .i64 bD,.int .i64 bH,.slice dx bI.length dy,.slice dH bR.length dI,.int .i64 0,.string (⟨#[]⟩ : ByteArray),.bool false]) ?_ 6 _ rfl; (with_reducible repeat (first | refine zj ?_ _ | refine zl ?_ | refine zk ?_ _)); refine zp (cs := #[.int .i64 br,.int .i64 bv,.int .i64 bD,.int .i64 bH,.slice dx bI.length dy,.slice none 0 0,.int .i64 0,.string (⟨#[]⟩ : ByteArray),.bool false]) ?_ 5 _ rfl; (with_reducible repeat (first | refine zj ?_ _ | refine zl ?_ | refine zk ?_ _)); refine zp (cs := #[.int .i64 br,.int .i64 bv,.int .i64 bD,.int .i64 bH,.slice none 0 0,.slice none 0 0,.int .i64 0,.string (⟨#[]⟩ : ByteArray),.bool false]) ?_ 4 _ rfl; (with_reducible repeat (first | refine zj ?_ _ | refine zl ?_ | refine zk ?_ _)); refine zp (cs := #[.int .i64 br,.int .i64 bv,.int .i64 bD,.int .i64 0,.slice none 0 0,.slice none 0 0,.int .i64 0,.string (⟨#[]⟩ : ByteArray),.bool false]) ?_ 3 _ rfl; (with_reducible repeat (first | refine zj ?_ _ | refine zl ?_ | refine zk ?_ _)); refine zp (cs := #[.int .i64 br,.int .i64 bv,.int .i64 0,.int .i64 0,.slice none 0 0,.slice none 0 0,.int .i64 0,.string (⟨#[]⟩ : ByteArray),.bool false]) ?_ 2 _ rfl; (with_reducible repeat (first | refine zj ?_ _ | refine zl ?_ | refine zk ?_ _)); refine zp (cs := #[.int .i64 br,.int .i64 0,.int .i64 0,.int .i64 0,.slice none 0 0,.slice none 0 0,.int .i64 0,.string (⟨#[]⟩ : ByteArray),.bool false]) ?_ 1 _ rfl; (with_reducible repeat (first | refine zj ?_ _ | refine zl ?_ | refine zk ?_ _)); refine zp (cs := #[.int .i64 0,.int .i64 0,.int .i64 0,.int .i64 0,.slice none 0 0,.slice none 0 0,.int .i64 0,.string (⟨#[]⟩ : ByteArray),.bool false]) ?_ 0 _ rfl; (with_reducible repeat (first | refine zj ?_ _ | refine zl ?_ | refine zk ?_ _)); exact aa.out⟩,⟨by repeat (first | (with_reducible first | exact HB.out | apply Zq | apply Zp | apply Zo | refine Zn ?_ ax.out | refine Zn ?_ aF.out) | exact HB.out)⟩⟩
     case round =>
      clear H'
      try clear c1
      try clear c2
      try clear p2
      try clear c3
      try clear c4
      try clear c7
      try clear c8
      try clear dw
      try clear fq
      try clear dY
      try clear dL
      try clear eH
      try clear eI
      try clear fb
      try clear dM
      try clear fI
      try clear fJ
      try clear oa
      try clear dZ
      try clear ea
      try clear eb
      try clear ec
      try clear ed
      try clear ej
      try clear ek
      try clear el
      try clear em
      try clear en
      try clear eu
      try clear ev
      try clear ew
      try clear ex
      try clear ey
      try clear fZ
      try clear ga
      try clear gb
      try clear gc
      try clear gd
      try clear gl
      try clear gm
      try clear gn
      try clear gp
      try clear gq
      try clear gr
      try clear gs
      try clear gu
      try clear gv
      try clear eR
      try clear eS
      try clear eT
      try clear eU
      try clear eV
      try clear ee
      try clear ef
      try clear eg
      try clear eh
      try clear ei
      try clear eo
      try clear ep
      try clear er
      try clear es
      try clear et
      try clear ez
      try clear eA
      try clear eB
      try clear eC
      try clear eD
      try clear gf
      try clear gg
      try clear gh
      try clear gi
      try clear gj
      try clear gw
      try clear gx
      try clear gy
      try clear gz
      try clear gA
      try clear gB
      try clear gC
      try clear gD
      try clear gE
      try clear eW
      try clear eX
      try clear eY
      try clear eZ
      try clear fa
      try clear p2
      obtain ⟨ap,am,al,ak,aj,ah,ag,ai,ae,cM,aQ,aR,rfl,HA,HK2,HO_631004,HO_631005,ac,aa,HB⟩ := hrel
      cases gk with
      | zero => exact absurd HA.out (by simp [L_ChunkWhole.l0])
      | succ k2 =>
       have H := HA.out
       clear HA
       simp only [L_ChunkWhole.l0] at H
       by_cases fK : cM = true
       ·
        subst fK
        have H1 : (if ap > 300 then (L_ChunkWhole.j2 k2 l3 l4 ap true au av aq ar an am al ak aj ah ag ai ae true) else ((chunk_Check.f k2 am al ak aj ah ag ai ae true).bind fun cB => (if cB = 0 then (if 0 ≤ (mn (ae.size : Int) (an.size : Int)) then (if (mn (ae.size : Int) (an.size : Int)) ≤ (an.size : Int) then (L_ChunkWhole.j2 k2 l3 l4 ap (ae.toList != (an.extract 0 ((mn (ae.size : Int) (an.size : Int)) : Int).toNat).toList) au av aq ar an am al ak aj ah ag ai ae true) else (none)) else (none)) else (L_ChunkWhole.j2 k2 l3 l4 ap true au av aq ar an am al ak aj ah ag ai ae true)))) = some r := by rw [if_pos rfl] at H; exact H
        clear H
        have H := H1
        clear H1
        have fr := zzk H
        clear H
        have ns := bS.out
        have nt := ay.out
        have lR : wr.cell? ⟨ab,0,none⟩ = some (.int .i64 am) := (zi aa.out 0).trans rfl
        have lS : wr.cell? ⟨ab,1,none⟩ = some (.int .i64 al) := (zi aa.out 1).trans rfl
        have lT : wr.cell? ⟨ab,2,none⟩ = some (.int .i64 ak) := (zi aa.out 2).trans rfl
        have lU : wr.cell? ⟨ab,3,none⟩ = some (.int .i64 aj) := (zi aa.out 3).trans rfl
        have lV : wr.cell? ⟨ab,4,none⟩ = some (aQ) := (zi aa.out 4).trans rfl
        have lW : wr.cell? ⟨ab,5,none⟩ = some (aR) := (zi aa.out 5).trans rfl
        have lX : wr.cell? ⟨ab,6,none⟩ = some (.int .i64 ai) := (zi aa.out 6).trans rfl
        have lY : wr.cell? ⟨ab,7,none⟩ = some (.string ae) := (zi aa.out 7).trans rfl
        have lZ : wr.cell? ⟨ab,8,none⟩ = some (.bool true) := (zi aa.out 8).trans rfl
        have ma := zm aa.out 0
        have mb := zm aa.out 1
        have mc := zm aa.out 2
        have md := zm aa.out 3
        have me := zm aa.out 4
        have mf := zm aa.out 5
        have mg := zm aa.out 6
        have mh := zm aa.out 7
        have gF := zm aa.out 8
        go_upto_region 9 with (fail)
        go_cut [85] (fun mS wc => ∃ (kq : Nat) (dB : Bool),mS = .bool dB ∧ Aside0 (L_ChunkWhole.j2 kq l3 l4 ap dB au av aq ar an am al ak aj ah ag ai ae true = some r) ∧ Aside0 (kq ≤ k2) ∧ Aside0 (Kd.R (Kd.int .i64) 3 wc w.heap.size (fun k_ => some k_ ≠ (aR : Value).ownBlock) aQ ah) ∧ Aside0 (Kd.R (Kd.int .i64) 3 wc w.heap.size (fun k_ => some k_ ≠ (aQ : Value).ownBlock) aR ag) ∧ Aside0 (wc.heap[ao]? = some (.cells #[.int .i64 au,.int .i64 av,(.slice aG aq.length aH),(.slice aI ar.length aJ),.string an] 26 (0,0))) ∧ Aside0 (wc.heap[ab]? = some (.cells #[.int .i64 am,.int .i64 al,.int .i64 ak,.int .i64 aj,aQ,aR,.int .i64 ai,.string ae,.bool true] 34 (0,0))) ∧ Aside0 (Below w.heap.size w wc))
        case first =>
         have H := fr.out
         clear fr
         by_cases dQ : ap > 300
         ·
          rw [if_pos dQ] at H
          have dr : decide (300 < ap) = true := zzn dQ
          clear dQ
          (first | rw [dr] | (simp only [Zv,Zw]; rw [dr]) | skip)
          have H' := zzk H
          clear H
          try go_wp2
          have az := zzk (zs HO_631004.out)
          have aA := zzk (zs HO_631005.out)
          have aB := zzk (zl ac.out)
          have aC := zzk (zl aa.out)
          have aE := zzk (Zo HB.out)
          clear HO_631004
          clear HO_631005
          clear ac
          clear aa
          clear HB
          have HO_631004 := az
          have HO_631005 := aA
          have ac := aB
          have aa := aC
          have HB := aE
          clear az aA aB aC aE
          refine start_ (n := 22) (S := fun w' => True) (ds := []) z37B0 (by kernel_rfl) rfl rfl trivial (fun hHeld => ?_); refine with_tabW L_ChunkWhole.tab9 L_ChunkWhole.bits9 (fun HT_ HW_ => ?_)
          generalize wr.drew = ob at HO_631004 HO_631005 ac aa HB hHeld ⊢
          refine pure_ (i := 0) (N := some 64) (v := ?_) (a' := ?_) z37B1 rfl rfl (Zu HT_.out (by kernel_rfl)) (fun _ _ _ h => h) (Or.inl ⟨by rfl,?_⟩) ?_ ?_
          rotate_left
          ·
           intro w'
           go_simp
           with_reducible rfl
          rotate_left
          ·
           simp only [Act.put,za,zb,zc,Zv,Zw]
           rfl
          refine pure_ (i := 1) (N := some 65) (v := ?_) (a' := ?_) z37B2 rfl rfl (Zu HT_.out (by kernel_rfl)) (fun _ _ _ h => h) (Or.inl ⟨by rfl,?_⟩) ?_ ?_
          rotate_left
          ·
           intro w'
           go_simp
           with_reducible rfl
          rotate_left
          ·
           simp only [Act.put,za,zb,zc,Zv,Zw]
           rfl
          refine pure_ (i := 2) (N := some 66) (v := ?_) (a' := ?_) z37B3 rfl rfl (Zu HT_.out (by kernel_rfl)) (fun _ _ _ h => h) (Or.inl ⟨by rfl,?_⟩) ?_ ?_
          rotate_left
          ·
           intro w'
           go_simp
           with_reducible rfl
          rotate_left
          ·
           simp only [Act.put,za,zb,zc,Zv,Zw]
           rfl
          refine pure_ (i := 3) (N := some 67) (v := undef) (a' := ?_) z37B4 rfl rfl (Zu HT_.out (by kernel_rfl)) (fun _ _ _ h => h) (Or.inr ⟨by rfl,rfl⟩) ?_ ?_
          rotate_left
          ·
           simp only [Act.put,za,zb,zc,Zv,Zw]
           rfl
          refine pure_ (i := 4) (N := some 68) (v := undef) (a' := ?_) z37B5 rfl rfl (Zu HT_.out (by kernel_rfl)) (fun _ _ _ h => h) (Or.inr ⟨by rfl,rfl⟩) ?_ ?_
          rotate_left
          ·
           simp only [Act.put,za,zb,zc,Zv,Zw]
           rfl
          refine pure_ (i := 5) (N := some 69) (v := undef) (a' := ?_) z37B6 rfl rfl (Zu HT_.out (by kernel_rfl)) (fun _ _ _ h => h) (Or.inr ⟨by rfl,rfl⟩) ?_ ?_
          rotate_left
          ·
           simp only [Act.put,za,zb,zc,Zv,Zw]
           rfl
          refine pure_ (i := 6) (N := some 70) (v := ?_) (a' := ?_) z37B7 rfl rfl (Zu HT_.out (by kernel_rfl)) (fun _ _ _ h => h) (Or.inl ⟨by rfl,?_⟩) ?_ ?_
          rotate_left
          ·
           intro w'
           go_simp
           with_reducible rfl
          rotate_left
          ·
           simp only [Act.put,za,zb,zc,Zv,Zw]
           rfl
          refine pure_ (i := 7) (N := some 71) (v := ?_) (a' := ?_) z37B8 rfl rfl (Zu HT_.out (by kernel_rfl)) (fun _ _ _ h => h) (Or.inl ⟨by rfl,?_⟩) ?_ ?_
          rotate_left
          ·
           intro w'
           go_simp
           with_reducible rfl
          rotate_left
          ·
           simp only [Act.put,za,zb,zc,Zv,Zw]
           rfl
          refine pure_ (i := 8) (N := some 72) (v := undef) (a' := ?_) z37B9 rfl rfl (Zu HT_.out (by kernel_rfl)) (fun _ _ _ h => h) (Or.inr ⟨by rfl,rfl⟩) ?_ ?_
          rotate_left
          ·
           simp only [Act.put,za,zb,zc,Zv,Zw]
           rfl
          refine pure_ (i := 9) (N := some 73) (v := undef) (a' := ?_) z37B10 rfl rfl (Zu HT_.out (by kernel_rfl)) (fun _ _ _ h => h) (Or.inr ⟨by rfl,rfl⟩) ?_ ?_
          rotate_left
          ·
           simp only [Act.put,za,zb,zc,Zv,Zw]
           rfl
          refine pure_ (i := 10) (N := some 74) (v := undef) (a' := ?_) z37B11 rfl rfl (Zu HT_.out (by kernel_rfl)) (fun _ _ _ h => h) (Or.inr ⟨by rfl,rfl⟩) ?_ ?_
          rotate_left
          ·
           simp only [Act.put,za,zb,zc,Zv,Zw]
           rfl
          refine pure_ (i := 11) (N := some 75) (v := undef) (a' := ?_) z37B12 rfl rfl (Zu HT_.out (by kernel_rfl)) (fun _ _ _ h => h) (Or.inr ⟨by rfl,rfl⟩) ?_ ?_
          rotate_left
          ·
           simp only [Act.put,za,zb,zc,Zv,Zw]
           rfl
          refine pure_ (i := 12) (N := some 76) (v := undef) (a' := ?_) z37B13 rfl rfl (Zu HT_.out (by kernel_rfl)) (fun _ _ _ h => h) (Or.inr ⟨by rfl,rfl⟩) ?_ ?_
          rotate_left
          ·
           simp only [Act.put,za,zb,zc,Zv,Zw]
           rfl
          refine pure_ (i := 13) (N := some 77) (v := undef) (a' := ?_) z37B14 rfl rfl (Zu HT_.out (by kernel_rfl)) (fun _ _ _ h => h) (Or.inr ⟨by rfl,rfl⟩) ?_ ?_
          rotate_left
          ·
           simp only [Act.put,za,zb,zc,Zv,Zw]
           rfl
          refine pure_ (i := 14) (N := some 78) (v := undef) (a' := ?_) z37B15 rfl rfl (Zu HT_.out (by kernel_rfl)) (fun _ _ _ h => h) (Or.inr ⟨by rfl,rfl⟩) ?_ ?_
          rotate_left
          ·
           simp only [Act.put,za,zb,zc,Zv,Zw]
           rfl
          refine pure_ (i := 15) (N := some 79) (v := undef) (a' := ?_) z37B16 rfl rfl (Zu HT_.out (by kernel_rfl)) (fun _ _ _ h => h) (Or.inr ⟨by rfl,rfl⟩) ?_ ?_
          rotate_left
          ·
           simp only [Act.put,za,zb,zc,Zv,Zw]
           rfl
          refine pure_ (i := 16) (N := some 80) (v := undef) (a' := ?_) z37B17 rfl rfl (Zu HT_.out (by kernel_rfl)) (fun _ _ _ h => h) (Or.inr ⟨by rfl,rfl⟩) ?_ ?_
          rotate_left
          ·
           simp only [Act.put,za,zb,zc,Zv,Zw]
           rfl
          refine pure_ (i := 17) (N := some 81) (v := undef) (a' := ?_) z37B18 rfl rfl (Zu HT_.out (by kernel_rfl)) (fun _ _ _ h => h) (Or.inr ⟨by rfl,rfl⟩) ?_ ?_
          rotate_left
          ·
           simp only [Act.put,za,zb,zc,Zv,Zw]
           rfl
          refine pure_ (i := 18) (N := some 82) (v := undef) (a' := ?_) z37B19 rfl rfl (Zu HT_.out (by kernel_rfl)) (fun _ _ _ h => h) (Or.inr ⟨by rfl,rfl⟩) ?_ ?_
          rotate_left
          ·
           simp only [Act.put,za,zb,zc,Zv,Zw]
           rfl
          refine pure_ (i := 19) (N := some 83) (v := undef) (a' := ?_) z37B20 rfl rfl (Zu HT_.out (by kernel_rfl)) (fun _ _ _ h => h) (Or.inr ⟨by rfl,rfl⟩) ?_ ?_
          rotate_left
          ·
           simp only [Act.put,za,zb,zc,Zv,Zw]
           rfl
          refine pure_ (i := 20) (N := some 84) (v := undef) (a' := ?_) z37B21 rfl rfl (Zu HT_.out (by kernel_rfl)) (fun _ _ _ h => h) (Or.inr ⟨by rfl,rfl⟩) ?_ ?_
          rotate_left
          ·
           simp only [Act.put,za,zb,zc,Zv,Zw]
           rfl
          refine pure_ (i := 21) (N := some 85) (v := ?_) (a' := ?_) z37B22 rfl rfl (Zu HT_.out (by kernel_rfl)) (fun _ _ _ h => h) (Or.inl ⟨by rfl,?_⟩) ?_ ?_
          rotate_left
          ·
           intro w'
           go_simp
           with_reducible rfl
          rotate_left
          ·
           simp only [Act.put,za,zb,zc,Zv,Zw]
           rfl
          refine done_ (done_of HT_.out (by kernel_rfl)) ?_
          try go_wp2
          go_meet
          case rel => exact ⟨_,(true),(by first | rfl | (simp; done) | (simp [*]; done)),H',⟨by have := HJ5.out; have := HK2.out; first | omega | exact Nat.le_refl _⟩,⟨by (with_reducible repeat (first | apply zu | apply zt | apply zs)); exact HO_631004.out⟩,⟨by (with_reducible repeat (first | apply zu | apply zt | apply zs)); exact HO_631005.out⟩,⟨by (with_reducible repeat (first | refine zj ?_ _ | refine zl ?_ | refine zk ?_ _)); exact ac.out⟩,⟨by (with_reducible repeat (first | refine zj ?_ _ | refine zl ?_ | refine zk ?_ _)); exact aa.out⟩,⟨by repeat (first | (with_reducible first | exact HB.out | apply Zq | apply Zp | apply Zo | refine Zn ?_ ax.out | refine Zn ?_ aF.out) | exact HB.out)⟩⟩
         ·
          rw [if_neg dQ] at H
          have dr : decide (300 < ap) = false := zzo dQ
          clear dQ
          (first | rw [dr] | (simp only [Zv,Zw]; rw [dr]) | skip)
          replace H := Option.bind_eq_some_iff.mp H
          obtain ⟨cB,ih,H⟩ := H
          replace H : (if cB = 0 then (if 0 ≤ (mn (ae.size : Int) (an.size : Int)) then (if (mn (ae.size : Int) (an.size : Int)) ≤ (an.size : Int) then (L_ChunkWhole.j2 k2 l3 l4 ap (ae.toList != (an.extract 0 ((mn (ae.size : Int) (an.size : Int)) : Int).toNat).toList) au av aq ar an am al ak aj ah ag ai ae true) else (none)) else (none)) else (L_ChunkWhole.j2 k2 l3 l4 ap true au av aq ar an am al ak aj ah ag ai ae true)) = some r := H
          have ii := zzk ih
          clear ih
          by_cases dN : cB = 0
          ·
           rw [if_pos dN] at H
           have fL : (cB == 0) = true := beq_iff_eq.mpr dN
           have fM : (cB != 0) = false := bne_eq_false_iff_eq.mpr dN
           clear dN
           obtain ⟨cY,dC⟩ : ∃ j_ : Int,(mn (ae.size : Int) (an.size : Int)) = j_ := ⟨_,rfl⟩
           replace H : (if 0 ≤ (cY) then (if (cY) ≤ (an.size : Int) then (L_ChunkWhole.j2 k2 l3 l4 ap (ae.toList != (an.extract 0 ((cY) : Int).toNat).toList) au av aq ar an am al ak aj ah ag ai ae true) else (none)) else (none)) = some r := by first | (rw [dC] at H; exact H) | (simp only [dC] at H ⊢; exact H)
           (try rw [dC] at ii)
           have ij : (if (an.size : Int) < (ae.size : Int) then (an.size : Int) else (ae.size : Int)) = cY := dC
           have mT : (if an.size < ae.size then (an.size : Int) else (ae.size : Int)) = cY := by have h_ := ij; simpa only [Int.ofNat_lt] using h_
           by_cases eE : 0 ≤ (cY)
           ·
            rw [if_pos eE] at H
            have iy := eq_true eE
            have iz : decide (0 ≤ (cY)) = true := zzn eE
            clear eE
            by_cases eF : (cY) ≤ (an.size : Int)
            ·
             rw [if_pos eF] at H
             have iA := eq_true eF
             have iB : decide ((cY) ≤ (an.size : Int)) = true := zzn eF
             clear eF
             have H' := zzk H
             clear H
             try go_wp2
             have az := zzk (zs HO_631004.out)
             have aA := zzk (zs HO_631005.out)
             have aB := zzk (zl ac.out)
             have aC := zzk (zl aa.out)
             have aE := zzk (Zo HB.out)
             clear HO_631004
             clear HO_631005
             clear ac
             clear aa
             clear HB
             have HO_631004 := az
             have HO_631005 := aA
             have ac := aB
             have aa := aC
             have HB := aE
             clear az aA aB aC aE
             obtain ⟨fs,ft,eo41⟩ := zz HO_631004.out
             (first | subst eo41 | (injection eo41 with f1_ f2_ f3_; have f4_ := f1_.symm; have f5_ := f3_.symm; clear f1_ f2_ f3_; subst f4_; subst f5_))
             obtain ⟨fu,fv,eo42⟩ := zz HO_631005.out
             (first | subst eo42 | (injection eo42 with f1_ f2_ f3_; have f4_ := f1_.symm; have f5_ := f3_.symm; clear f1_ f2_ f3_; subst f4_; subst f5_))
             refine start_ (n := 22) (S := fun w' => w'.cell? ⟨ab,0,none⟩ = some (.int .i64 am) ∧ w'.cell? ⟨ab,1,none⟩ = some (.int .i64 al) ∧ w'.cell? ⟨ab,2,none⟩ = some (.int .i64 ak) ∧ w'.cell? ⟨ab,3,none⟩ = some (.int .i64 aj) ∧ w'.cell? ⟨ab,4,none⟩ = some (.slice fs ah.length ft) ∧ w'.cell? ⟨ab,5,none⟩ = some (.slice fu ag.length fv) ∧ w'.cell? ⟨ab,6,none⟩ = some (.int .i64 ai) ∧ w'.cell? ⟨ab,7,none⟩ = some (.string ae) ∧ w'.cell? ⟨ab,8,none⟩ = some (.bool true) ∧ w'.cell? ⟨ao,0,none⟩ = some (.int .i64 au) ∧ w'.cell? ⟨ao,1,none⟩ = some (.int .i64 av) ∧ w'.cell? ⟨ao,2,none⟩ = some (.slice aG aq.length aH) ∧ w'.cell? ⟨ao,3,none⟩ = some (.slice aI ar.length aJ) ∧ w'.cell? ⟨ao,4,none⟩ = some (.string an)) (ds := []) z37B0 (by kernel_rfl) rfl rfl ⟨(zi aa.out 0).trans rfl,(zi aa.out 1).trans rfl,(zi aa.out 2).trans rfl,(zi aa.out 3).trans rfl,(zi aa.out 4).trans rfl,(zi aa.out 5).trans rfl,(zi aa.out 6).trans rfl,(zi aa.out 7).trans rfl,(zi aa.out 8).trans rfl,(zi ac.out 0).trans rfl,(zi ac.out 1).trans rfl,(zi ac.out 2).trans rfl,(zi ac.out 3).trans rfl,(zi ac.out 4).trans rfl⟩ (fun hHeld => ?_); refine with_tabW L_ChunkWhole.tab9 L_ChunkWhole.bits9 (fun HT_ HW_ => ?_)
             generalize wr.drew = oc at HO_631004 HO_631005 ac aa HB hHeld ⊢
             refine pure_ (i := 0) (N := some 64) (v := ?_) (a' := ?_) z37B1 rfl rfl (Zu HT_.out (by kernel_rfl)) (fun _ _ _ h => h) (Or.inl ⟨by rfl,?_⟩) ?_ ?_
             rotate_left
             ·
              intro w'
              go_simp
              with_reducible rfl
             rotate_left
             ·
              simp only [Act.put,za,zb,zc,Zv,Zw]
              rfl
             refine pure_ (i := 1) (N := some 65) (v := ?_) (a' := ?_) z37B2 rfl rfl (Zu HT_.out (by kernel_rfl)) (fun _ _ _ h => h) (Or.inl ⟨by rfl,?_⟩) ?_ ?_
             rotate_left
             ·
              intro w'
              go_simp
              with_reducible rfl
             rotate_left
             ·
              simp only [Act.put,za,zb,zc,Zv,Zw]
              rfl
             refine pure_ (i := 2) (N := some 66) (v := ?_) (a' := ?_) z37B3 rfl rfl (Zu HT_.out (by kernel_rfl)) (fun _ _ _ h => h) (Or.inl ⟨by rfl,?_⟩) ?_ ?_
             rotate_left
             ·
              intro w'
              go_simp
              with_reducible rfl
             rotate_left
             ·
              simp only [Act.put,za,zb,zc,Zv,Zw]
              rfl
             refine take_ (i := 3) (N := some 67) (v := ?_) (a' := ?_) z37B4 rfl rfl (take_ofW HT_.out HW_.out (by kernel_rfl)) (fun _ _ _ h => h) (Or.inl ⟨by rfl,?_⟩) hHeld ?_ ?_
             rotate_left
             ·
              rintro w' ⟨s0,s1,s2,s3,s4,s5,s6,s7,s8,s9,dv,fN,fO,fP⟩
              go_simp
              with_reducible rfl
             rotate_left
             ·
              simp only [Act.put,za,zb,zc,Zv,Zw]
              rfl
             refine one_ (i := 4) (N := some 68) z37B5 rfl rfl (one_of HT_.out (by kernel_rfl)) (by decide) (fun K hK => ?_)
             refine goes_ Try.func17 (by kernel_rfl) rfl #[.agg #[.int .i64 am,.int .i64 al,.int .i64 ak,.int .i64 aj,.slice fs ah.length ft,.slice fu ag.length fv,.int .i64 ai,.string ae,.bool true]] (by rfl) rfl rfl (by (try simp only [zd,ze,zf]); first | done | rfl | (simp only [zg,zh]; rfl)) ?_
             with_reducible refine (chunk_Check.calls k2 am al ak aj _ _ ah _ _ ag ai ae true cB _ ?side1 ?side2 ?side3 ?side4 ii.out).mono ?_
             (case side1 => repeat (first | exact (zw HO_631004.out).2.2 | (with_reducible refine Zk ?_ _) | (with_reducible refine Zj ?_ _) | (with_reducible refine Zl ?_)))
             (case side2 => exact (zw HO_631004.out).2.1)
             (case side3 => repeat (first | exact (zw HO_631005.out).2.2 | (with_reducible refine Zk ?_ _) | (with_reducible refine Zj ?_ _) | (with_reducible refine Zl ?_)))
             (case side4 => exact (zw HO_631005.out).2.1)
             rintro e od ⟨rfl,hb⟩
             refine ⟨_,rfl,?_⟩
             have az := zzk (zv (by (with_reducible repeat (first | apply zu | apply zt | apply zs)); exact HO_631004.out) hb)
             have aA := zzk (zv (by (with_reducible repeat (first | apply zu | apply zt | apply zs)); exact HO_631005.out) hb)
             have aB := zzk (zo (g := ao) (o := .cells #[.int .i64 au,.int .i64 av,.slice aG aq.length aH,.slice aI ar.length aJ,.string an] 26 (0,0)) (by (with_reducible repeat (first | refine zj ?_ _ | refine zl ?_ | refine zk ?_ _)); exact ac.out) hb)
             have aC := zzk (zo (g := ab) (o := .cells #[.int .i64 am,.int .i64 al,.int .i64 ak,.int .i64 aj,.slice fs ah.length ft,.slice fu ag.length fv,.int .i64 ai,.string ae,.bool true] 34 (0,0)) (by (with_reducible repeat (first | refine zj ?_ _ | refine zl ?_ | refine zk ?_ _)); exact aa.out) hb)
             have aE := zzk (Zs (by repeat (first | (with_reducible first | exact HB.out | apply Zq | apply Zp | apply Zo | refine Zn ?_ ax.out | refine Zn ?_ aF.out) | exact HB.out)) hb)
             clear HO_631004
             clear HO_631005
             clear ac
             clear aa
             clear HB
             have HO_631004 := az
             have HO_631005 := aA
             have ac := aB
             have aa := aC
             have HB := aE
             clear az aA aB aC aE
             (try clear hb)
             (try clear hb2)
             (try clear hk)
             (try clear hi)
             refine hK.out _ _ ⟨(zi aa.out 0).trans rfl,(zi aa.out 1).trans rfl,(zi aa.out 2).trans rfl,(zi aa.out 3).trans rfl,(zi aa.out 4).trans rfl,(zi aa.out 5).trans rfl,(zi aa.out 6).trans rfl,(zi aa.out 7).trans rfl,(zi aa.out 8).trans rfl,(zi ac.out 0).trans rfl,(zi ac.out 1).trans rfl,(zi ac.out 2).trans rfl,(zi ac.out 3).trans rfl,(zi ac.out 4).trans rfl⟩ (fun hHeld => ?_)
             clear hK K
             refine norm_ (a' := ?_) ?_ ?_
             rotate_left
             ·
              show Act.put _ (some 68) _ = _
              simp only [Act.put,za,zb,zc,Zv,Zw]
              rfl
             refine pure_ (i := 5) (N := some 69) (v := ?_) (a' := ?_) z37B6 rfl rfl (Zu HT_.out (by kernel_rfl)) (fun _ _ _ h => h) (Or.inl ⟨by rfl,?_⟩) ?_ ?_
             rotate_left
             ·
              intro w'
              go_simp
              with_reducible rfl
             rotate_left
             ·
              simp only [Act.put,za,zb,zc,Zv,Zw]
              rfl
             refine pure_ (i := 6) (N := some 70) (v := ?_) (a' := ?_) z37B7 rfl rfl (Zu HT_.out (by kernel_rfl)) (fun _ _ _ h => h) (Or.inl ⟨by rfl,?_⟩) ?_ ?_
             rotate_left
             ·
              intro w'
              go_simp
              with_reducible rfl
             rotate_left
             ·
              simp only [Act.put,za,zb,zc,Zv,Zw]
              rfl
             refine pure_ (i := 7) (N := some 71) (v := ?_) (a' := ?_) z37B8 rfl rfl (Zu HT_.out (by kernel_rfl)) (fun _ _ _ h => h) (Or.inl ⟨by rfl,?_⟩) ?_ ?_
             rotate_left
             ·
              intro w'
              go_simp
              with_reducible rfl
             rotate_left
             ·
              simp only [Act.put,za,zb,zc,Zv,Zw]
              rfl
             refine pure_ (i := 8) (N := some 72) (v := ?_) (a' := ?_) z37B9 rfl rfl (Zu HT_.out (by kernel_rfl)) (fun _ _ _ h => h) (Or.inl ⟨by rfl,?_⟩) ?_ ?_
             rotate_left
             ·
              intro w'
              go_simp
              with_reducible rfl
             rotate_left
             ·
              simp only [Act.put,za,zb,zc,Zv,Zw]
              rfl
             refine pure_ (i := 10) (N := some 74) (v := ?_) (a' := ?_) #[true,true,true,true,true,true,true,true,true,false,true,false,false,false,false,false,false,false,false,false,false,false] rfl rfl (Zu HT_.out (by kernel_rfl)) (fun _ _ _ h => h) (Or.inl ⟨by rfl,?_⟩) ?_ ?_
             rotate_left
             ·
              intro w'
              go_simp
              with_reducible rfl
             rotate_left
             ·
              simp only [Act.put,za,zb,zc,Zv,Zw]
              rfl
             refine pure_ (i := 12) (N := some 76) (v := ?_) (a' := ?_) #[true,true,true,true,true,true,true,true,true,false,true,false,true,false,false,false,false,false,false,false,false,false] rfl rfl (Zu HT_.out (by kernel_rfl)) (fun _ _ _ h => h) (Or.inl ⟨by rfl,?_⟩) ?_ ?_
             rotate_left
             ·
              intro w'
              go_simp
              with_reducible rfl
             rotate_left
             ·
              simp only [Act.put,za,zb,zc,Zv,Zw]
              rfl
             refine pure_ (i := 15) (N := some 79) (v := ?_) (a' := ?_) #[true,true,true,true,true,true,true,true,true,false,true,false,true,false,false,true,false,false,false,false,false,false] rfl rfl (Zu HT_.out (by kernel_rfl)) (fun _ _ _ h => h) (Or.inl ⟨by rfl,?_⟩) ?_ ?_
             rotate_left
             ·
              intro w'
              go_simp
              with_reducible rfl
             rotate_left
             ·
              simp only [Act.put,za,zb,zc,Zv,Zw]
              rfl
             refine take_ (i := 9) (N := some 73) (v := ?_) (a' := ?_) #[true,true,true,true,true,true,true,true,true,true,true,false,true,false,false,true,false,false,false,false,false,false] rfl rfl (take_ofW HT_.out HW_.out (by kernel_rfl)) (fun _ _ _ h => h) (Or.inl ⟨by rfl,?_⟩) hHeld ?_ ?_
             rotate_left
             ·
              rintro w' ⟨s0,s1,s2,s3,s4,s5,s6,s7,s8,s9,dv,fN,fO,fP⟩
              go_simp
              with_reducible rfl
             rotate_left
             ·
              simp only [Act.put,za,zb,zc,Zv,Zw]
              rfl
             refine take_ (i := 11) (N := some 75) (v := ?_) (a' := ?_) #[true,true,true,true,true,true,true,true,true,true,true,true,true,false,false,true,false,false,false,false,false,false] rfl rfl (take_ofW HT_.out HW_.out (by kernel_rfl)) (fun _ _ _ h => h) (Or.inl ⟨by rfl,?_⟩) hHeld ?_ ?_
             rotate_left
             ·
              rintro w' ⟨s0,s1,s2,s3,s4,s5,s6,s7,s8,s9,dv,fN,fO,fP⟩
              go_simp
              with_reducible rfl
             rotate_left
             ·
              simp only [Act.put,za,zb,zc,Zv,Zw]
              rfl
             refine take_ (i := 13) (N := some 77) (v := ?_) (a' := ?_) #[true,true,true,true,true,true,true,true,true,true,true,true,true,true,false,true,false,false,false,false,false,false] rfl rfl (take_ofW HT_.out HW_.out (by kernel_rfl)) (fun _ _ _ h => h) (Or.inl ⟨by rfl,?_⟩) hHeld ?_ ?_
             rotate_left
             ·
              rintro w' ⟨s0,s1,s2,s3,s4,s5,s6,s7,s8,s9,dv,fN,fO,fP⟩
              go_simp
              with_reducible rfl
             rotate_left
             ·
              simp only [Act.put,za,zb,zc,Zv,Zw]
              rfl
             refine pure_ (i := 14) (N := some 78) (v := ?_) (a' := ?_) z37B16 rfl rfl (Zu HT_.out (by kernel_rfl)) (fun _ _ _ h => h) (Or.inl ⟨by rfl,?_⟩) ?_ ?_
             rotate_left
             ·
              intro w'
              go_simp
              with_reducible rfl
             rotate_left
             ·
              simp only [Act.put,za,zb,zc,Zv,Zw]
              rfl
             refine take_ (i := 16) (N := some 80) (v := ?_) (a' := ?_) z37B17 rfl rfl (take_ofW HT_.out HW_.out (by kernel_rfl)) (fun _ _ _ h => h) (Or.inl ⟨by rfl,?_⟩) hHeld ?_ ?_
             rotate_left
             ·
              rintro w' ⟨s0,s1,s2,s3,s4,s5,s6,s7,s8,s9,dv,fN,fO,fP⟩
              go_simp
              with_reducible rfl
             rotate_left
             ·
              simp only [Act.put,za,zb,zc,Zv,Zw]
              rfl
             refine pure_ (i := 17) (N := some 81) (v := ?_) (a' := ?_) z37B18 rfl rfl (Zu HT_.out (by kernel_rfl)) (fun _ _ _ h => h) (Or.inl ⟨by rfl,?_⟩) ?_ ?_
             rotate_left
             ·
              intro w'
              go_simp
              with_reducible rfl
             rotate_left
             ·
              simp only [Act.put,za,zb,zc,Zv,Zw]
              rfl
             refine pure_ (i := 18) (N := some 82) (v := ?_) (a' := ?_) z37B19 rfl rfl (Zu HT_.out (by kernel_rfl)) (fun _ _ _ h => h) (Or.inl ⟨by rfl,?_⟩) ?_ ?_
             rotate_left
             ·
              intro w'
              go_simp
              with_reducible rfl
             rotate_left
             ·
              simp only [Act.put,za,zb,zc,Zv,Zw]
              rfl
             refine pure_ (i := 19) (N := some 83) (v := ?_) (a' := ?_) z37B20 rfl rfl (Zu HT_.out (by kernel_rfl)) (fun _ _ _ h => h) (Or.inl ⟨by rfl,?_⟩) ?_ ?_
             rotate_left
             ·
              intro w'
              go_simp
              with_reducible rfl
             rotate_left
             ·
              simp only [Act.put,za,zb,zc,Zv,Zw]
              rfl
             refine pure_ (i := 20) (N := some 84) (v := ?_) (a' := ?_) z37B21 rfl rfl (Zu HT_.out (by kernel_rfl)) (fun _ _ _ h => h) (Or.inl ⟨by rfl,?_⟩) ?_ ?_
             rotate_left
             ·
              intro w'
              go_simp
              with_reducible rfl
             rotate_left
             ·
              simp only [Act.put,za,zb,zc,Zv,Zw]
              rfl
             refine pure_ (i := 21) (N := some 85) (v := ?_) (a' := ?_) z37B22 rfl rfl (Zu HT_.out (by kernel_rfl)) (fun _ _ _ h => h) (Or.inl ⟨by rfl,?_⟩) ?_ ?_
             rotate_left
             ·
              intro w'
              go_simp
              with_reducible rfl
             rotate_left
             ·
              simp only [Act.put,za,zb,zc,Zv,Zw]
              rfl
             refine done_ (done_of HT_.out (by kernel_rfl)) ?_
             try go_wp2
             go_meet
             case rel => exact ⟨_,((ae.toList != (an.extract 0 ((cY) : Int).toNat).toList)),(by first | rfl | (simp; done) | (simp only [← dC] <;> (first | rfl | simp)) | (simp [*]; done)),H',⟨by have := HJ5.out; have := HK2.out; first | omega | exact Nat.le_refl _⟩,⟨by (with_reducible repeat (first | apply zu | apply zt | apply zs)); exact HO_631004.out⟩,⟨by (with_reducible repeat (first | apply zu | apply zt | apply zs)); exact HO_631005.out⟩,⟨by (with_reducible repeat (first | refine zj ?_ _ | refine zl ?_ | refine zk ?_ _)); exact ac.out⟩,⟨by (with_reducible repeat (first | refine zj ?_ _ | refine zl ?_ | refine zk ?_ _)); exact aa.out⟩,⟨by repeat (first | (with_reducible first | exact HB.out | apply Zq | apply Zp | apply Zo | refine Zn ?_ ax.out | refine Zn ?_ aF.out) | exact HB.out)⟩⟩
            ·
             rw [if_neg eF] at H
             exact absurd H (by simp)
           ·
            rw [if_neg eE] at H
            exact absurd H (by simp)
          ·
           rw [if_neg dN] at H
           have fL : (cB == 0) = false := beq_eq_false_iff_ne.mpr dN
           have fM : (cB != 0) = true := bne_iff_ne.mpr dN
           have H' := zzk H
           clear H
           try go_wp2
           have az := zzk (zs HO_631004.out)
           have aA := zzk (zs HO_631005.out)
           have aB := zzk (zl ac.out)
           have aC := zzk (zl aa.out)
           have aE := zzk (Zo HB.out)
           clear HO_631004
           clear HO_631005
           clear ac
           clear aa
           clear HB
           have HO_631004 := az
           have HO_631005 := aA
           have ac := aB
           have aa := aC
           have HB := aE
           clear az aA aB aC aE
           obtain ⟨fw,fx,eo45⟩ := zz HO_631004.out
           (first | subst eo45 | (injection eo45 with f1_ f2_ f3_; have f4_ := f1_.symm; have f5_ := f3_.symm; clear f1_ f2_ f3_; subst f4_; subst f5_))
           obtain ⟨fy,fz,eo46⟩ := zz HO_631005.out
           (first | subst eo46 | (injection eo46 with f1_ f2_ f3_; have f4_ := f1_.symm; have f5_ := f3_.symm; clear f1_ f2_ f3_; subst f4_; subst f5_))
           refine start_ (n := 22) (S := fun w' => w'.cell? ⟨ab,0,none⟩ = some (.int .i64 am) ∧ w'.cell? ⟨ab,1,none⟩ = some (.int .i64 al) ∧ w'.cell? ⟨ab,2,none⟩ = some (.int .i64 ak) ∧ w'.cell? ⟨ab,3,none⟩ = some (.int .i64 aj) ∧ w'.cell? ⟨ab,4,none⟩ = some (.slice fw ah.length fx) ∧ w'.cell? ⟨ab,5,none⟩ = some (.slice fy ag.length fz) ∧ w'.cell? ⟨ab,6,none⟩ = some (.int .i64 ai) ∧ w'.cell? ⟨ab,7,none⟩ = some (.string ae) ∧ w'.cell? ⟨ab,8,none⟩ = some (.bool true)) (ds := []) z37B0 (by kernel_rfl) rfl rfl ⟨(zi aa.out 0).trans rfl,(zi aa.out 1).trans rfl,(zi aa.out 2).trans rfl,(zi aa.out 3).trans rfl,(zi aa.out 4).trans rfl,(zi aa.out 5).trans rfl,(zi aa.out 6).trans rfl,(zi aa.out 7).trans rfl,(zi aa.out 8).trans rfl⟩ (fun hHeld => ?_); refine with_tabW L_ChunkWhole.tab9 L_ChunkWhole.bits9 (fun HT_ HW_ => ?_)
           generalize wr.drew = oe at HO_631004 HO_631005 ac aa HB hHeld ⊢
           refine pure_ (i := 0) (N := some 64) (v := ?_) (a' := ?_) z37B1 rfl rfl (Zu HT_.out (by kernel_rfl)) (fun _ _ _ h => h) (Or.inl ⟨by rfl,?_⟩) ?_ ?_
           rotate_left
           ·
            intro w'
            go_simp
            with_reducible rfl
           rotate_left
           ·
            simp only [Act.put,za,zb,zc,Zv,Zw]
            rfl
           refine pure_ (i := 1) (N := some 65) (v := ?_) (a' := ?_) z37B2 rfl rfl (Zu HT_.out (by kernel_rfl)) (fun _ _ _ h => h) (Or.inl ⟨by rfl,?_⟩) ?_ ?_
           rotate_left
           ·
            intro w'
            go_simp
            with_reducible rfl
           rotate_left
           ·
            simp only [Act.put,za,zb,zc,Zv,Zw]
            rfl
           refine pure_ (i := 2) (N := some 66) (v := ?_) (a' := ?_) z37B3 rfl rfl (Zu HT_.out (by kernel_rfl)) (fun _ _ _ h => h) (Or.inl ⟨by rfl,?_⟩) ?_ ?_
           rotate_left
           ·
            intro w'
            go_simp
            with_reducible rfl
           rotate_left
           ·
            simp only [Act.put,za,zb,zc,Zv,Zw]
            rfl
           refine take_ (i := 3) (N := some 67) (v := ?_) (a' := ?_) z37B4 rfl rfl (take_ofW HT_.out HW_.out (by kernel_rfl)) (fun _ _ _ h => h) (Or.inl ⟨by rfl,?_⟩) hHeld ?_ ?_
           rotate_left
           ·
            rintro w' ⟨s0,s1,s2,s3,s4,s5,s6,s7,s8⟩
            go_simp
            with_reducible rfl
           rotate_left
           ·
            simp only [Act.put,za,zb,zc,Zv,Zw]
            rfl
           refine one_ (i := 4) (N := some 68) z37B5 rfl rfl (one_of HT_.out (by kernel_rfl)) (by decide) (fun K hK => ?_)
           refine goes_ Try.func17 (by kernel_rfl) rfl #[.agg #[.int .i64 am,.int .i64 al,.int .i64 ak,.int .i64 aj,.slice fw ah.length fx,.slice fy ag.length fz,.int .i64 ai,.string ae,.bool true]] (by rfl) rfl rfl (by (try simp only [zd,ze,zf]); first | done | rfl | (simp only [zg,zh]; rfl)) ?_
           with_reducible refine (chunk_Check.calls k2 am al ak aj _ _ ah _ _ ag ai ae true cB _ ?side1 ?side2 ?side3 ?side4 ii.out).mono ?_
           (case side1 => repeat (first | exact (zw HO_631004.out).2.2 | (with_reducible refine Zk ?_ _) | (with_reducible refine Zj ?_ _) | (with_reducible refine Zl ?_)))
           (case side2 => exact (zw HO_631004.out).2.1)
           (case side3 => repeat (first | exact (zw HO_631005.out).2.2 | (with_reducible refine Zk ?_ _) | (with_reducible refine Zj ?_ _) | (with_reducible refine Zl ?_)))
           (case side4 => exact (zw HO_631005.out).2.1)
           rintro e og ⟨rfl,hb⟩
           refine ⟨_,rfl,?_⟩
           have az := zzk (zv (by (with_reducible repeat (first | apply zu | apply zt | apply zs)); exact HO_631004.out) hb)
           have aA := zzk (zv (by (with_reducible repeat (first | apply zu | apply zt | apply zs)); exact HO_631005.out) hb)
           have aB := zzk (zo (g := ao) (o := .cells #[.int .i64 au,.int .i64 av,.slice aG aq.length aH,.slice aI ar.length aJ,.string an] 26 (0,0)) (by (with_reducible repeat (first | refine zj ?_ _ | refine zl ?_ | refine zk ?_ _)); exact ac.out) hb)
           have aC := zzk (zo (g := ab) (o := .cells #[.int .i64 am,.int .i64 al,.int .i64 ak,.int .i64 aj,.slice fw ah.length fx,.slice fy ag.length fz,.int .i64 ai,.string ae,.bool true] 34 (0,0)) (by (with_reducible repeat (first | refine zj ?_ _ | refine zl ?_ | refine zk ?_ _)); exact aa.out) hb)
           have aE := zzk (Zs (by repeat (first | (with_reducible first | exact HB.out | apply Zq | apply Zp | apply Zo | refine Zn ?_ ax.out | refine Zn ?_ aF.out) | exact HB.out)) hb)
           clear HO_631004
           clear HO_631005
           clear ac
           clear aa
           clear HB
           have HO_631004 := az
           have HO_631005 := aA
           have ac := aB
           have aa := aC
           have HB := aE
           clear az aA aB aC aE
           (try clear hb)
           (try clear hb2)
           (try clear hk)
           (try clear hi)
           refine hK.out _ _ ⟨(zi aa.out 0).trans rfl,(zi aa.out 1).trans rfl,(zi aa.out 2).trans rfl,(zi aa.out 3).trans rfl,(zi aa.out 4).trans rfl,(zi aa.out 5).trans rfl,(zi aa.out 6).trans rfl,(zi aa.out 7).trans rfl,(zi aa.out 8).trans rfl⟩ (fun hHeld => ?_)
           clear hK K
           refine norm_ (a' := ?_) ?_ ?_
           rotate_left
           ·
            show Act.put _ (some 68) _ = _
            simp only [Act.put,za,zb,zc,Zv,Zw]
            rfl
           refine pure_ (i := 5) (N := some 69) (v := ?_) (a' := ?_) z37B6 rfl rfl (Zu HT_.out (by kernel_rfl)) (fun _ _ _ h => h) (Or.inl ⟨by rfl,?_⟩) ?_ ?_
           rotate_left
           ·
            intro w'
            go_simp
            with_reducible rfl
           rotate_left
           ·
            simp only [Act.put,za,zb,zc,Zv,Zw]
            rfl
           refine pure_ (i := 6) (N := some 70) (v := ?_) (a' := ?_) z37B7 rfl rfl (Zu HT_.out (by kernel_rfl)) (fun _ _ _ h => h) (Or.inl ⟨by rfl,?_⟩) ?_ ?_
           rotate_left
           ·
            intro w'
            go_simp
            with_reducible rfl
           rotate_left
           ·
            simp only [Act.put,za,zb,zc,Zv,Zw]
            rfl
           refine pure_ (i := 7) (N := some 71) (v := ?_) (a' := ?_) z37B8 rfl rfl (Zu HT_.out (by kernel_rfl)) (fun _ _ _ h => h) (Or.inl ⟨by rfl,?_⟩) ?_ ?_
           rotate_left
           ·
            intro w'
            go_simp
            with_reducible rfl
           rotate_left
           ·
            simp only [Act.put,za,zb,zc,Zv,Zw]
            rfl
           refine pure_ (i := 8) (N := some 72) (v := undef) (a' := ?_) z37B9 rfl rfl (Zu HT_.out (by kernel_rfl)) (fun _ _ _ h => h) (Or.inr ⟨by rfl,rfl⟩) ?_ ?_
           rotate_left
           ·
            simp only [Act.put,za,zb,zc,Zv,Zw]
            rfl
           refine pure_ (i := 9) (N := some 73) (v := undef) (a' := ?_) z37B10 rfl rfl (Zu HT_.out (by kernel_rfl)) (fun _ _ _ h => h) (Or.inr ⟨by rfl,rfl⟩) ?_ ?_
           rotate_left
           ·
            simp only [Act.put,za,zb,zc,Zv,Zw]
            rfl
           refine pure_ (i := 10) (N := some 74) (v := undef) (a' := ?_) z37B11 rfl rfl (Zu HT_.out (by kernel_rfl)) (fun _ _ _ h => h) (Or.inr ⟨by rfl,rfl⟩) ?_ ?_
           rotate_left
           ·
            simp only [Act.put,za,zb,zc,Zv,Zw]
            rfl
           refine pure_ (i := 11) (N := some 75) (v := undef) (a' := ?_) z37B12 rfl rfl (Zu HT_.out (by kernel_rfl)) (fun _ _ _ h => h) (Or.inr ⟨by rfl,rfl⟩) ?_ ?_
           rotate_left
           ·
            simp only [Act.put,za,zb,zc,Zv,Zw]
            rfl
           refine pure_ (i := 12) (N := some 76) (v := undef) (a' := ?_) z37B13 rfl rfl (Zu HT_.out (by kernel_rfl)) (fun _ _ _ h => h) (Or.inr ⟨by rfl,rfl⟩) ?_ ?_
           rotate_left
           ·
            simp only [Act.put,za,zb,zc,Zv,Zw]
            rfl
           refine pure_ (i := 13) (N := some 77) (v := undef) (a' := ?_) z37B14 rfl rfl (Zu HT_.out (by kernel_rfl)) (fun _ _ _ h => h) (Or.inr ⟨by rfl,rfl⟩) ?_ ?_
           rotate_left
           ·
            simp only [Act.put,za,zb,zc,Zv,Zw]
            rfl
           refine pure_ (i := 14) (N := some 78) (v := undef) (a' := ?_) z37B15 rfl rfl (Zu HT_.out (by kernel_rfl)) (fun _ _ _ h => h) (Or.inr ⟨by rfl,rfl⟩) ?_ ?_
           rotate_left
           ·
            simp only [Act.put,za,zb,zc,Zv,Zw]
            rfl
           refine pure_ (i := 15) (N := some 79) (v := undef) (a' := ?_) z37B16 rfl rfl (Zu HT_.out (by kernel_rfl)) (fun _ _ _ h => h) (Or.inr ⟨by rfl,rfl⟩) ?_ ?_
           rotate_left
           ·
            simp only [Act.put,za,zb,zc,Zv,Zw]
            rfl
           refine pure_ (i := 16) (N := some 80) (v := undef) (a' := ?_) z37B17 rfl rfl (Zu HT_.out (by kernel_rfl)) (fun _ _ _ h => h) (Or.inr ⟨by rfl,rfl⟩) ?_ ?_
           rotate_left
           ·
            simp only [Act.put,za,zb,zc,Zv,Zw]
            rfl
           refine pure_ (i := 17) (N := some 81) (v := undef) (a' := ?_) z37B18 rfl rfl (Zu HT_.out (by kernel_rfl)) (fun _ _ _ h => h) (Or.inr ⟨by rfl,rfl⟩) ?_ ?_
           rotate_left
           ·
            simp only [Act.put,za,zb,zc,Zv,Zw]
            rfl
           refine pure_ (i := 18) (N := some 82) (v := undef) (a' := ?_) z37B19 rfl rfl (Zu HT_.out (by kernel_rfl)) (fun _ _ _ h => h) (Or.inr ⟨by rfl,rfl⟩) ?_ ?_
           rotate_left
           ·
            simp only [Act.put,za,zb,zc,Zv,Zw]
            rfl
           refine pure_ (i := 19) (N := some 83) (v := undef) (a' := ?_) z37B20 rfl rfl (Zu HT_.out (by kernel_rfl)) (fun _ _ _ h => h) (Or.inr ⟨by rfl,rfl⟩) ?_ ?_
           rotate_left
           ·
            simp only [Act.put,za,zb,zc,Zv,Zw]
            rfl
           refine pure_ (i := 20) (N := some 84) (v := undef) (a' := ?_) z37B21 rfl rfl (Zu HT_.out (by kernel_rfl)) (fun _ _ _ h => h) (Or.inr ⟨by rfl,rfl⟩) ?_ ?_
           rotate_left
           ·
            simp only [Act.put,za,zb,zc,Zv,Zw]
            rfl
           refine pure_ (i := 21) (N := some 85) (v := ?_) (a' := ?_) z37B22 rfl rfl (Zu HT_.out (by kernel_rfl)) (fun _ _ _ h => h) (Or.inl ⟨by rfl,?_⟩) ?_ ?_
           rotate_left
           ·
            intro w'
            go_simp
            with_reducible rfl
           rotate_left
           ·
            simp only [Act.put,za,zb,zc,Zv,Zw]
            rfl
           refine done_ (done_of HT_.out (by kernel_rfl)) ?_
           try go_wp2
           go_meet
           case rel => exact ⟨_,(true),(by first | rfl | (simp; done) | (simp [*]; done)),H',⟨by have := HJ5.out; have := HK2.out; first | omega | exact Nat.le_refl _⟩,⟨by (with_reducible repeat (first | apply zu | apply zt | apply zs)); exact HO_631004.out⟩,⟨by (with_reducible repeat (first | apply zu | apply zt | apply zs)); exact HO_631005.out⟩,⟨by (with_reducible repeat (first | refine zj ?_ _ | refine zl ?_ | refine zk ?_ _)); exact ac.out⟩,⟨by (with_reducible repeat (first | refine zj ?_ _ | refine zl ?_ | refine zk ?_ _)); exact aa.out⟩,⟨by repeat (first | (with_reducible first | exact HB.out | apply Zq | apply Zp | apply Zo | refine Zn ?_ ax.out | refine Zn ?_ aF.out) | exact HB.out)⟩⟩
        case rest =>
         clear fr
         try clear c1
         try clear c2
         try clear p2
         try clear c3
         try clear oh
         try clear dQ
         try clear dr
         try clear dN
         try clear fL
         try clear fM
         try clear eE
         try clear iy
         try clear iz
         try clear eF
         try clear iA
         try clear iB
         try clear gF
         obtain ⟨kq,dB,rfl,HA,HJ29,HO_631004,HO_631005,ac,aa,HB⟩ := hcut
         cases kq with
         | zero => exact absurd HA.out (by simp [L_ChunkWhole.j2])
         | succ dR =>
          have H := HA.out
          clear HA
          simp only [L_ChunkWhole.j2] at H
          by_cases fQ : dB = true
          ·
           subst fQ
           have H1 : (none) = some r := by rw [if_pos rfl] at H; exact H
           clear H
           have H := H1
           clear H1
           exact absurd H (by simp)
          ·
           replace fQ := Bool.eq_false_iff.mpr fQ
           subst fQ
           have H1 : (if ap < (l3.length : Int) then (if ap < (l4.length : Int) then (if 0 ≤ ap then (if (rd l3 ap) = (ae.size : Int) then (L_ChunkWhole.j3 dR l3 l4 ap false au av aq ar an am al ak aj ah ag ai ae true) else (L_ChunkWhole.j3 dR l3 l4 ap (decide (((rdOf ByteArray.empty l4 ap).size : Int) < 1000)) au av aq ar an am al ak aj ah ag ai ae true)) else (none)) else (L_ChunkWhole.j3 dR l3 l4 ap false au av aq ar an am al ak aj ah ag ai ae true)) else (L_ChunkWhole.j3 dR l3 l4 ap false au av aq ar an am al ak aj ah ag ai ae true)) = some r := by rw [if_neg (show ¬ (false = true) by decide)] at H; exact H
           clear H
           have H := H1
           clear H1
           have fA := zzk H
           clear H
           go_upto_region 11 with (fail)
           go_cut [113] (fun jd wc => ∃ (kq : Nat) (dt : Bool),jd = .bool dt ∧ Aside0 (L_ChunkWhole.j3 kq l3 l4 ap dt au av aq ar an am al ak aj ah ag ai ae true = some r) ∧ Aside0 (kq ≤ dR) ∧ Aside0 (Kd.R (Kd.int .i64) 3 wc w.heap.size (fun k_ => some k_ ≠ (aR : Value).ownBlock) aQ ah) ∧ Aside0 (Kd.R (Kd.int .i64) 3 wc w.heap.size (fun k_ => some k_ ≠ (aQ : Value).ownBlock) aR ag) ∧ Aside0 (wc.heap[ao]? = some (.cells #[.int .i64 au,.int .i64 av,(.slice aG aq.length aH),(.slice aI ar.length aJ),.string an] 26 (0,0))) ∧ Aside0 (wc.heap[ab]? = some (.cells #[.int .i64 am,.int .i64 al,.int .i64 ak,.int .i64 aj,aQ,aR,.int .i64 ai,.string ae,.bool true] 34 (0,0))) ∧ Aside0 (Below w.heap.size w wc))
           case first =>
            have H := fA.out
            clear fA
            by_cases dS : ap < (l3.length : Int)
            ·
             rw [if_pos dS] at H
             have du : decide (ap < (l3.length : Int)) = true := zzn dS
             clear dS
             (first | rw [du] | (simp only [Zv,Zw]; rw [du]) | skip)
             by_cases dT : ap < (l4.length : Int)
             ·
              rw [if_pos dT] at H
              have fR : decide (ap < (l4.length : Int)) = true := zzn dT
              clear dT
              by_cases fc : 0 ≤ ap
              ·
               rw [if_pos fc] at H
               have nu : decide (0 ≤ ap) = true := zzn fc
               clear fc
               by_cases dU : (rd l3 ap) = (ae.size : Int)
               ·
                rw [if_pos dU] at H
                have iC : ((rd l3 ap) == (ae.size : Int)) = true := beq_iff_eq.mpr dU
                have iD : ((rd l3 ap) != (ae.size : Int)) = false := bne_eq_false_iff_eq.mpr dU
                clear dU
                have H' := zzk H
                clear H
                try go_wp2
                have az := zzk (zs HO_631004.out)
                have aA := zzk (zs HO_631005.out)
                have aB := zzk (zl ac.out)
                have aC := zzk (zl aa.out)
                have aE := zzk (Zo HB.out)
                clear HO_631004
                clear HO_631005
                clear ac
                clear aa
                clear HB
                have HO_631004 := az
                have HO_631005 := aA
                have ac := aB
                have aa := aC
                have HB := aE
                clear az aA aB aC aE
                have p634 : 0 ≤ (ap : Int) := of_decide_eq_true (by first | (with_reducible assumption) | assumption)
                have dz : ap < (l3.length : Int) := of_decide_eq_true (by first | (with_reducible assumption) | assumption)
                obtain ⟨ad634,e634,hx634_0⟩ := Kd.at_int ia.out ap p634 dz
                have hw634_0 := hx634_0
                cases e634
                replace hx634_0 := (HB.out.cell (World.block_lt_of_cell? w _ hx634_0)).trans hx634_0
                replace p634 := eq_true p634
                replace dz := eq_true dz
                refine start_ (n := 28) (S := fun w' => w'.cell? ⟨ab,0,none⟩ = some (.int .i64 am) ∧ w'.cell? ⟨ab,1,none⟩ = some (.int .i64 al) ∧ w'.cell? ⟨ab,2,none⟩ = some (.int .i64 ak) ∧ w'.cell? ⟨ab,3,none⟩ = some (.int .i64 aj) ∧ w'.cell? ⟨ab,4,none⟩ = some (aQ) ∧ w'.cell? ⟨ab,5,none⟩ = some (aR) ∧ w'.cell? ⟨ab,6,none⟩ = some (.int .i64 ai) ∧ w'.cell? ⟨ab,7,none⟩ = some (.string ae) ∧ w'.cell? ⟨ab,8,none⟩ = some (.bool true) ∧ w'.cell? (ad634.add (ap).toNat) = some (.int .i64 (rd l3 ap))) (ds := []) z37B23 (by kernel_rfl) rfl rfl ⟨(zi aa.out 0).trans rfl,(zi aa.out 1).trans rfl,(zi aa.out 2).trans rfl,(zi aa.out 3).trans rfl,(zi aa.out 4).trans rfl,(zi aa.out 5).trans rfl,(zi aa.out 6).trans rfl,(zi aa.out 7).trans rfl,(zi aa.out 8).trans rfl,((HB.out.cell (World.block_lt_of_cell? w _ hw634_0)).trans hw634_0)⟩ (fun hHeld => ?_); refine with_tabW L_ChunkWhole.tab11 L_ChunkWhole.bits11 (fun HT_ HW_ => ?_)
                generalize wc.drew = oi at HO_631004 HO_631005 ac aa HB hx634_0 hHeld ⊢
                refine pure_ (i := 0) (N := some 86) (v := ?_) (a' := ?_) z37B24 rfl rfl (Zu HT_.out (by kernel_rfl)) (fun _ _ _ h => h) (Or.inl ⟨by rfl,?_⟩) ?_ ?_
                rotate_left
                ·
                 intro w'
                 go_simp
                 with_reducible rfl
                rotate_left
                ·
                 simp only [Act.put,za,zb,zc,Zv,Zw]
                 rfl
                refine pure_ (i := 1) (N := some 87) (v := ?_) (a' := ?_) z37B25 rfl rfl (Zu HT_.out (by kernel_rfl)) (fun _ _ _ h => h) (Or.inl ⟨by rfl,?_⟩) ?_ ?_
                rotate_left
                ·
                 intro w'
                 go_simp
                 with_reducible rfl
                rotate_left
                ·
                 simp only [Act.put,za,zb,zc,Zv,Zw]
                 rfl
                refine pure_ (i := 2) (N := some 88) (v := ?_) (a' := ?_) z37B26 rfl rfl (Zu HT_.out (by kernel_rfl)) (fun _ _ _ h => h) (Or.inl ⟨by rfl,?_⟩) ?_ ?_
                rotate_left
                ·
                 intro w'
                 go_simp
                 with_reducible rfl
                rotate_left
                ·
                 simp only [Act.put,za,zb,zc,Zv,Zw]
                 rfl
                refine pure_ (i := 3) (N := some 89) (v := ?_) (a' := ?_) z37B27 rfl rfl (Zu HT_.out (by kernel_rfl)) (fun _ _ _ h => h) (Or.inl ⟨by rfl,?_⟩) ?_ ?_
                rotate_left
                ·
                 intro w'
                 go_simp
                 with_reducible rfl
                rotate_left
                ·
                 simp only [Act.put,za,zb,zc,Zv,Zw]
                 rfl
                refine pure_ (i := 4) (N := some 90) (v := ?_) (a' := ?_) z37B28 rfl rfl (Zu HT_.out (by kernel_rfl)) (fun _ _ _ h => h) (Or.inl ⟨by rfl,?_⟩) ?_ ?_
                rotate_left
                ·
                 intro w'
                 go_simp
                 with_reducible rfl
                rotate_left
                ·
                 simp only [Act.put,za,zb,zc,Zv,Zw]
                 rfl
                refine pure_ (i := 5) (N := some 91) (v := ?_) (a' := ?_) z37B29 rfl rfl (Zu HT_.out (by kernel_rfl)) (fun _ _ _ h => h) (Or.inl ⟨by rfl,?_⟩) ?_ ?_
                rotate_left
                ·
                 intro w'
                 go_simp
                 with_reducible rfl
                rotate_left
                ·
                 simp only [Act.put,za,zb,zc,Zv,Zw]
                 rfl
                refine pure_ (i := 6) (N := some 92) (v := ?_) (a' := ?_) z37B30 rfl rfl (Zu HT_.out (by kernel_rfl)) (fun _ _ _ h => h) (Or.inl ⟨by rfl,?_⟩) ?_ ?_
                rotate_left
                ·
                 intro w'
                 go_simp
                 with_reducible rfl
                rotate_left
                ·
                 simp only [Act.put,za,zb,zc,Zv,Zw]
                 rfl
                refine pure_ (i := 7) (N := some 93) (v := ?_) (a' := ?_) z37B31 rfl rfl (Zu HT_.out (by kernel_rfl)) (fun _ _ _ h => h) (Or.inl ⟨by rfl,?_⟩) ?_ ?_
                rotate_left
                ·
                 intro w'
                 go_simp
                 with_reducible rfl
                rotate_left
                ·
                 simp only [Act.put,za,zb,zc,Zv,Zw]
                 rfl
                refine pure_ (i := 8) (N := some 94) (v := ?_) (a' := ?_) z37B32 rfl rfl (Zu HT_.out (by kernel_rfl)) (fun _ _ _ h => h) (Or.inl ⟨by rfl,?_⟩) ?_ ?_
                rotate_left
                ·
                 intro w'
                 go_simp
                 with_reducible rfl
                rotate_left
                ·
                 simp only [Act.put,za,zb,zc,Zv,Zw]
                 rfl
                refine pure_ (i := 9) (N := some 95) (v := ?_) (a' := ?_) z37B33 rfl rfl (Zu HT_.out (by kernel_rfl)) (fun _ _ _ h => h) (Or.inl ⟨by rfl,?_⟩) ?_ ?_
                rotate_left
                ·
                 intro w'
                 go_simp
                 with_reducible rfl
                rotate_left
                ·
                 simp only [Act.put,za,zb,zc,Zv,Zw]
                 rfl
                refine pure_ (i := 10) (N := some 96) (v := ?_) (a' := ?_) z37B34 rfl rfl (Zu HT_.out (by kernel_rfl)) (fun _ _ _ h => h) (Or.inl ⟨by rfl,?_⟩) ?_ ?_
                rotate_left
                ·
                 intro w'
                 go_simp
                 with_reducible rfl
                rotate_left
                ·
                 simp only [Act.put,za,zb,zc,Zv,Zw]
                 rfl
                refine pure_ (i := 11) (N := some 97) (v := ?_) (a' := ?_) z37B35 rfl rfl (Zu HT_.out (by kernel_rfl)) (fun _ _ _ h => h) (Or.inl ⟨by rfl,?_⟩) ?_ ?_
                rotate_left
                ·
                 intro w'
                 go_simp
                 with_reducible rfl
                rotate_left
                ·
                 simp only [Act.put,za,zb,zc,Zv,Zw]
                 rfl
                refine pure_ (i := 12) (N := some 98) (v := ?_) (a' := ?_) z37B36 rfl rfl (Zu HT_.out (by kernel_rfl)) (fun _ _ _ h => h) (Or.inl ⟨by rfl,?_⟩) ?_ ?_
                rotate_left
                ·
                 intro w'
                 go_simp
                 with_reducible rfl
                rotate_left
                ·
                 simp only [Act.put,za,zb,zc,Zv,Zw]
                 rfl
                refine pure_ (i := 13) (N := some 99) (v := ?_) (a' := ?_) z37B37 rfl rfl (Zu HT_.out (by kernel_rfl)) (fun _ _ _ h => h) (Or.inl ⟨by rfl,?_⟩) ?_ ?_
                rotate_left
                ·
                 intro w'
                 go_simp
                 with_reducible rfl
                rotate_left
                ·
                 simp only [Act.put,za,zb,zc,Zv,Zw]
                 rfl
                refine pure_ (i := 15) (N := some 101) (v := ?_) (a' := ?_) z37B38 rfl rfl (Zu HT_.out (by kernel_rfl)) (fun _ _ _ h => h) (Or.inl ⟨by rfl,?_⟩) ?_ ?_
                rotate_left
                ·
                 intro w'
                 go_simp
                 with_reducible rfl
                rotate_left
                ·
                 simp only [Act.put,za,zb,zc,Zv,Zw]
                 rfl
                refine take_ (i := 14) (N := some 100) (v := ?_) (a' := ?_) z37B39 rfl rfl (take_ofW HT_.out HW_.out (by kernel_rfl)) (fun _ _ _ h => h) (Or.inl ⟨by rfl,?_⟩) hHeld ?_ ?_
                rotate_left
                ·
                 rintro w' ⟨s0,s1,s2,s3,s4,s5,s6,s7,s8,s9⟩
                 go_simp
                 with_reducible rfl
                rotate_left
                ·
                 simp only [Act.put,za,zb,zc,Zv,Zw]
                 rfl
                refine take_ (i := 16) (N := some 102) (v := ?_) (a' := ?_) z37B40 rfl rfl (take_ofW HT_.out HW_.out (by kernel_rfl)) (fun _ _ _ h => h) (Or.inl ⟨by rfl,?_⟩) hHeld ?_ ?_
                rotate_left
                ·
                 rintro w' ⟨s0,s1,s2,s3,s4,s5,s6,s7,s8,s9⟩
                 go_simp
                 with_reducible rfl
                rotate_left
                ·
                 simp only [Act.put,za,zb,zc,Zv,Zw]
                 rfl
                refine pure_ (i := 17) (N := some 103) (v := ?_) (a' := ?_) z37B41 rfl rfl (Zu HT_.out (by kernel_rfl)) (fun _ _ _ h => h) (Or.inl ⟨by rfl,?_⟩) ?_ ?_
                rotate_left
                ·
                 intro w'
                 go_simp
                 with_reducible rfl
                rotate_left
                ·
                 simp only [Act.put,za,zb,zc,Zv,Zw]
                 rfl
                refine pure_ (i := 18) (N := some 104) (v := ?_) (a' := ?_) z37B42 rfl rfl (Zu HT_.out (by kernel_rfl)) (fun _ _ _ h => h) (Or.inl ⟨by rfl,?_⟩) ?_ ?_
                rotate_left
                ·
                 intro w'
                 go_simp
                 with_reducible rfl
                rotate_left
                ·
                 simp only [Act.put,za,zb,zc,Zv,Zw]
                 rfl
                refine pure_ (i := 19) (N := some 105) (v := ?_) (a' := ?_) z37B43 rfl rfl (Zu HT_.out (by kernel_rfl)) (fun _ _ _ h => h) (Or.inl ⟨by rfl,?_⟩) ?_ ?_
                rotate_left
                ·
                 intro w'
                 go_simp
                 with_reducible rfl
                rotate_left
                ·
                 simp only [Act.put,za,zb,zc,Zv,Zw]
                 rfl
                refine pure_ (i := 20) (N := some 106) (v := ?_) (a' := ?_) z37B44 rfl rfl (Zu HT_.out (by kernel_rfl)) (fun _ _ _ h => h) (Or.inl ⟨by rfl,?_⟩) ?_ ?_
                rotate_left
                ·
                 intro w'
                 go_simp
                 with_reducible rfl
                rotate_left
                ·
                 simp only [Act.put,za,zb,zc,Zv,Zw]
                 rfl
                refine pure_ (i := 21) (N := some 107) (v := undef) (a' := ?_) z37B45 rfl rfl (Zu HT_.out (by kernel_rfl)) (fun _ _ _ h => h) (Or.inr ⟨by rfl,rfl⟩) ?_ ?_
                rotate_left
                ·
                 simp only [Act.put,za,zb,zc,Zv,Zw]
                 rfl
                refine pure_ (i := 22) (N := some 108) (v := undef) (a' := ?_) z37B46 rfl rfl (Zu HT_.out (by kernel_rfl)) (fun _ _ _ h => h) (Or.inr ⟨by rfl,rfl⟩) ?_ ?_
                rotate_left
                ·
                 simp only [Act.put,za,zb,zc,Zv,Zw]
                 rfl
                refine pure_ (i := 23) (N := some 109) (v := undef) (a' := ?_) z37B47 rfl rfl (Zu HT_.out (by kernel_rfl)) (fun _ _ _ h => h) (Or.inr ⟨by rfl,rfl⟩) ?_ ?_
                rotate_left
                ·
                 simp only [Act.put,za,zb,zc,Zv,Zw]
                 rfl
                refine pure_ (i := 24) (N := some 110) (v := undef) (a' := ?_) z37B48 rfl rfl (Zu HT_.out (by kernel_rfl)) (fun _ _ _ h => h) (Or.inr ⟨by rfl,rfl⟩) ?_ ?_
                rotate_left
                ·
                 simp only [Act.put,za,zb,zc,Zv,Zw]
                 rfl
                refine pure_ (i := 25) (N := some 111) (v := undef) (a' := ?_) z37B49 rfl rfl (Zu HT_.out (by kernel_rfl)) (fun _ _ _ h => h) (Or.inr ⟨by rfl,rfl⟩) ?_ ?_
                rotate_left
                ·
                 simp only [Act.put,za,zb,zc,Zv,Zw]
                 rfl
                refine pure_ (i := 26) (N := some 112) (v := undef) (a' := ?_) z37B50 rfl rfl (Zu HT_.out (by kernel_rfl)) (fun _ _ _ h => h) (Or.inr ⟨by rfl,rfl⟩) ?_ ?_
                rotate_left
                ·
                 simp only [Act.put,za,zb,zc,Zv,Zw]
                 rfl
                refine pure_ (i := 27) (N := some 113) (v := ?_) (a' := ?_) z37B51 rfl rfl (Zu HT_.out (by kernel_rfl)) (fun _ _ _ h => h) (Or.inl ⟨by rfl,?_⟩) ?_ ?_
                rotate_left
                ·
                 intro w'
                 go_simp
                 with_reducible rfl
                rotate_left
                ·
                 simp only [Act.put,za,zb,zc,Zv,Zw]
                 rfl
                refine done_ (done_of HT_.out (by kernel_rfl)) ?_
                try go_wp2
                go_meet
                case rel => exact ⟨_,(false),(by first | rfl | (simp; done) | (simp [*]; done)),H',⟨by have := HJ5.out; have := HK2.out; have := HJ29.out; first | omega | exact Nat.le_refl _⟩,⟨by (with_reducible repeat (first | apply zu | apply zt | apply zs)); exact HO_631004.out⟩,⟨by (with_reducible repeat (first | apply zu | apply zt | apply zs)); exact HO_631005.out⟩,⟨by (with_reducible repeat (first | refine zj ?_ _ | refine zl ?_ | refine zk ?_ _)); exact ac.out⟩,⟨by (with_reducible repeat (first | refine zj ?_ _ | refine zl ?_ | refine zk ?_ _)); exact aa.out⟩,⟨by repeat (first | (with_reducible first | exact HB.out | apply Zq | apply Zp | apply Zo | refine Zn ?_ ax.out | refine Zn ?_ aF.out) | exact HB.out)⟩⟩
               ·
                rw [if_neg dU] at H
                have iC : ((rd l3 ap) == (ae.size : Int)) = false := beq_eq_false_iff_ne.mpr dU
                have iD : ((rd l3 ap) != (ae.size : Int)) = true := bne_iff_ne.mpr dU
                have H' := zzk H
                clear H
                try go_wp2
                have az := zzk (zs HO_631004.out)
                have aA := zzk (zs HO_631005.out)
                have aB := zzk (zl ac.out)
                have aC := zzk (zl aa.out)
                have aE := zzk (Zo HB.out)
                clear HO_631004
                clear HO_631005
                clear ac
                clear aa
                clear HB
                have HO_631004 := az
                have HO_631005 := aA
                have ac := aB
                have aa := aC
                have HB := aE
                clear az aA aB aC aE
                have p634 : 0 ≤ (ap : Int) := of_decide_eq_true (by first | (with_reducible assumption) | assumption)
                have dz : ap < (l3.length : Int) := of_decide_eq_true (by first | (with_reducible assumption) | assumption)
                obtain ⟨ad634,e634,hx634_0⟩ := Kd.at_int ia.out ap p634 dz
                have hw634_0 := hx634_0
                cases e634
                replace hx634_0 := (HB.out.cell (World.block_lt_of_cell? w _ hx634_0)).trans hx634_0
                replace p634 := eq_true p634
                replace dz := eq_true dz
                have p635 : 0 ≤ (ap : Int) := of_decide_eq_true (by first | (with_reducible assumption) | assumption)
                have fB : ap < (l4.length : Int) := of_decide_eq_true (by first | (with_reducible assumption) | assumption)
                obtain ⟨ad635,e635,hx635_0⟩ := Kd.at_string iN.out ap p635 fB
                have hw635_0 := hx635_0
                cases e635
                replace hx635_0 := (HB.out.cell (World.block_lt_of_cell? w _ hx635_0)).trans hx635_0
                replace p635 := eq_true p635
                replace fB := eq_true fB
                refine start_ (n := 28) (S := fun w' => w'.cell? ⟨ab,0,none⟩ = some (.int .i64 am) ∧ w'.cell? ⟨ab,1,none⟩ = some (.int .i64 al) ∧ w'.cell? ⟨ab,2,none⟩ = some (.int .i64 ak) ∧ w'.cell? ⟨ab,3,none⟩ = some (.int .i64 aj) ∧ w'.cell? ⟨ab,4,none⟩ = some (aQ) ∧ w'.cell? ⟨ab,5,none⟩ = some (aR) ∧ w'.cell? ⟨ab,6,none⟩ = some (.int .i64 ai) ∧ w'.cell? ⟨ab,7,none⟩ = some (.string ae) ∧ w'.cell? ⟨ab,8,none⟩ = some (.bool true) ∧ w'.cell? (ad634.add (ap).toNat) = some (.int .i64 (rd l3 ap)) ∧ w'.cell? (ad635.add (ap).toNat) = some (.string (rdOf ByteArray.empty l4 ap))) (ds := []) z37B23 (by kernel_rfl) rfl rfl ⟨(zi aa.out 0).trans rfl,(zi aa.out 1).trans rfl,(zi aa.out 2).trans rfl,(zi aa.out 3).trans rfl,(zi aa.out 4).trans rfl,(zi aa.out 5).trans rfl,(zi aa.out 6).trans rfl,(zi aa.out 7).trans rfl,(zi aa.out 8).trans rfl,((HB.out.cell (World.block_lt_of_cell? w _ hw634_0)).trans hw634_0),((HB.out.cell (World.block_lt_of_cell? w _ hw635_0)).trans hw635_0)⟩ (fun hHeld => ?_); refine with_tabW L_ChunkWhole.tab11 L_ChunkWhole.bits11 (fun HT_ HW_ => ?_)
                generalize wc.drew = oj at HO_631004 HO_631005 ac aa HB hx634_0 hx635_0 hHeld ⊢
                refine pure_ (i := 0) (N := some 86) (v := ?_) (a' := ?_) z37B24 rfl rfl (Zu HT_.out (by kernel_rfl)) (fun _ _ _ h => h) (Or.inl ⟨by rfl,?_⟩) ?_ ?_
                rotate_left
                ·
                 intro w'
                 go_simp
                 with_reducible rfl
                rotate_left
                ·
                 simp only [Act.put,za,zb,zc,Zv,Zw]
                 rfl
                refine pure_ (i := 1) (N := some 87) (v := ?_) (a' := ?_) z37B25 rfl rfl (Zu HT_.out (by kernel_rfl)) (fun _ _ _ h => h) (Or.inl ⟨by rfl,?_⟩) ?_ ?_
                rotate_left
                ·
                 intro w'
                 go_simp
                 with_reducible rfl
                rotate_left
                ·
                 simp only [Act.put,za,zb,zc,Zv,Zw]
                 rfl
                refine pure_ (i := 2) (N := some 88) (v := ?_) (a' := ?_) z37B26 rfl rfl (Zu HT_.out (by kernel_rfl)) (fun _ _ _ h => h) (Or.inl ⟨by rfl,?_⟩) ?_ ?_
                rotate_left
                ·
                 intro w'
                 go_simp
                 with_reducible rfl
                rotate_left
                ·
                 simp only [Act.put,za,zb,zc,Zv,Zw]
                 rfl
                refine pure_ (i := 3) (N := some 89) (v := ?_) (a' := ?_) z37B27 rfl rfl (Zu HT_.out (by kernel_rfl)) (fun _ _ _ h => h) (Or.inl ⟨by rfl,?_⟩) ?_ ?_
                rotate_left
                ·
                 intro w'
                 go_simp
                 with_reducible rfl
                rotate_left
                ·
                 simp only [Act.put,za,zb,zc,Zv,Zw]
                 rfl
                refine pure_ (i := 4) (N := some 90) (v := ?_) (a' := ?_) z37B28 rfl rfl (Zu HT_.out (by kernel_rfl)) (fun _ _ _ h => h) (Or.inl ⟨by rfl,?_⟩) ?_ ?_
                rotate_left
                ·
                 intro w'
                 go_simp
                 with_reducible rfl
                rotate_left
                ·
                 simp only [Act.put,za,zb,zc,Zv,Zw]
                 rfl
                refine pure_ (i := 5) (N := some 91) (v := ?_) (a' := ?_) z37B29 rfl rfl (Zu HT_.out (by kernel_rfl)) (fun _ _ _ h => h) (Or.inl ⟨by rfl,?_⟩) ?_ ?_
                rotate_left
                ·
                 intro w'
                 go_simp
                 with_reducible rfl
                rotate_left
                ·
                 simp only [Act.put,za,zb,zc,Zv,Zw]
                 rfl
                refine pure_ (i := 6) (N := some 92) (v := ?_) (a' := ?_) z37B30 rfl rfl (Zu HT_.out (by kernel_rfl)) (fun _ _ _ h => h) (Or.inl ⟨by rfl,?_⟩) ?_ ?_
                rotate_left
                ·
                 intro w'
                 go_simp
                 with_reducible rfl
                rotate_left
                ·
                 simp only [Act.put,za,zb,zc,Zv,Zw]
                 rfl
                refine pure_ (i := 7) (N := some 93) (v := ?_) (a' := ?_) z37B31 rfl rfl (Zu HT_.out (by kernel_rfl)) (fun _ _ _ h => h) (Or.inl ⟨by rfl,?_⟩) ?_ ?_
                rotate_left
                ·
                 intro w'
                 go_simp
                 with_reducible rfl
                rotate_left
                ·
                 simp only [Act.put,za,zb,zc,Zv,Zw]
                 rfl
                refine pure_ (i := 8) (N := some 94) (v := ?_) (a' := ?_) z37B32 rfl rfl (Zu HT_.out (by kernel_rfl)) (fun _ _ _ h => h) (Or.inl ⟨by rfl,?_⟩) ?_ ?_
                rotate_left
                ·
                 intro w'
                 go_simp
                 with_reducible rfl
                rotate_left
                ·
                 simp only [Act.put,za,zb,zc,Zv,Zw]
                 rfl
                refine pure_ (i := 9) (N := some 95) (v := ?_) (a' := ?_) z37B33 rfl rfl (Zu HT_.out (by kernel_rfl)) (fun _ _ _ h => h) (Or.inl ⟨by rfl,?_⟩) ?_ ?_
                rotate_left
                ·
                 intro w'
                 go_simp
                 with_reducible rfl
                rotate_left
                ·
                 simp only [Act.put,za,zb,zc,Zv,Zw]
                 rfl
                refine pure_ (i := 10) (N := some 96) (v := ?_) (a' := ?_) z37B34 rfl rfl (Zu HT_.out (by kernel_rfl)) (fun _ _ _ h => h) (Or.inl ⟨by rfl,?_⟩) ?_ ?_
                rotate_left
                ·
                 intro w'
                 go_simp
                 with_reducible rfl
                rotate_left
                ·
                 simp only [Act.put,za,zb,zc,Zv,Zw]
                 rfl
                refine pure_ (i := 11) (N := some 97) (v := ?_) (a' := ?_) z37B35 rfl rfl (Zu HT_.out (by kernel_rfl)) (fun _ _ _ h => h) (Or.inl ⟨by rfl,?_⟩) ?_ ?_
                rotate_left
                ·
                 intro w'
                 go_simp
                 with_reducible rfl
                rotate_left
                ·
                 simp only [Act.put,za,zb,zc,Zv,Zw]
                 rfl
                refine pure_ (i := 12) (N := some 98) (v := ?_) (a' := ?_) z37B36 rfl rfl (Zu HT_.out (by kernel_rfl)) (fun _ _ _ h => h) (Or.inl ⟨by rfl,?_⟩) ?_ ?_
                rotate_left
                ·
                 intro w'
                 go_simp
                 with_reducible rfl
                rotate_left
                ·
                 simp only [Act.put,za,zb,zc,Zv,Zw]
                 rfl
                refine pure_ (i := 13) (N := some 99) (v := ?_) (a' := ?_) z37B37 rfl rfl (Zu HT_.out (by kernel_rfl)) (fun _ _ _ h => h) (Or.inl ⟨by rfl,?_⟩) ?_ ?_
                rotate_left
                ·
                 intro w'
                 go_simp
                 with_reducible rfl
                rotate_left
                ·
                 simp only [Act.put,za,zb,zc,Zv,Zw]
                 rfl
                refine pure_ (i := 15) (N := some 101) (v := ?_) (a' := ?_) z37B38 rfl rfl (Zu HT_.out (by kernel_rfl)) (fun _ _ _ h => h) (Or.inl ⟨by rfl,?_⟩) ?_ ?_
                rotate_left
                ·
                 intro w'
                 go_simp
                 with_reducible rfl
                rotate_left
                ·
                 simp only [Act.put,za,zb,zc,Zv,Zw]
                 rfl
                refine take_ (i := 14) (N := some 100) (v := ?_) (a' := ?_) z37B39 rfl rfl (take_ofW HT_.out HW_.out (by kernel_rfl)) (fun _ _ _ h => h) (Or.inl ⟨by rfl,?_⟩) hHeld ?_ ?_
                rotate_left
                ·
                 rintro w' ⟨s0,s1,s2,s3,s4,s5,s6,s7,s8,s9,dv⟩
                 go_simp
                 with_reducible rfl
                rotate_left
                ·
                 simp only [Act.put,za,zb,zc,Zv,Zw]
                 rfl
                refine take_ (i := 16) (N := some 102) (v := ?_) (a' := ?_) z37B40 rfl rfl (take_ofW HT_.out HW_.out (by kernel_rfl)) (fun _ _ _ h => h) (Or.inl ⟨by rfl,?_⟩) hHeld ?_ ?_
                rotate_left
                ·
                 rintro w' ⟨s0,s1,s2,s3,s4,s5,s6,s7,s8,s9,dv⟩
                 go_simp
                 with_reducible rfl
                rotate_left
                ·
                 simp only [Act.put,za,zb,zc,Zv,Zw]
                 rfl
                refine pure_ (i := 17) (N := some 103) (v := ?_) (a' := ?_) z37B41 rfl rfl (Zu HT_.out (by kernel_rfl)) (fun _ _ _ h => h) (Or.inl ⟨by rfl,?_⟩) ?_ ?_
                rotate_left
                ·
                 intro w'
                 go_simp
                 with_reducible rfl
                rotate_left
                ·
                 simp only [Act.put,za,zb,zc,Zv,Zw]
                 rfl
                refine pure_ (i := 18) (N := some 104) (v := ?_) (a' := ?_) z37B42 rfl rfl (Zu HT_.out (by kernel_rfl)) (fun _ _ _ h => h) (Or.inl ⟨by rfl,?_⟩) ?_ ?_
                rotate_left
                ·
                 intro w'
                 go_simp
                 with_reducible rfl
                rotate_left
                ·
                 simp only [Act.put,za,zb,zc,Zv,Zw]
                 rfl
                refine pure_ (i := 19) (N := some 105) (v := ?_) (a' := ?_) z37B43 rfl rfl (Zu HT_.out (by kernel_rfl)) (fun _ _ _ h => h) (Or.inl ⟨by rfl,?_⟩) ?_ ?_
                rotate_left
                ·
                 intro w'
                 go_simp
                 with_reducible rfl
                rotate_left
                ·
                 simp only [Act.put,za,zb,zc,Zv,Zw]
                 rfl
                refine pure_ (i := 20) (N := some 106) (v := ?_) (a' := ?_) z37B44 rfl rfl (Zu HT_.out (by kernel_rfl)) (fun _ _ _ h => h) (Or.inl ⟨by rfl,?_⟩) ?_ ?_
                rotate_left
                ·
                 intro w'
                 go_simp
                 with_reducible rfl
                rotate_left
                ·
                 simp only [Act.put,za,zb,zc,Zv,Zw]
                 rfl
                refine pure_ (i := 21) (N := some 107) (v := ?_) (a' := ?_) z37B45 rfl rfl (Zu HT_.out (by kernel_rfl)) (fun _ _ _ h => h) (Or.inl ⟨by rfl,?_⟩) ?_ ?_
                rotate_left
                ·
                 intro w'
                 go_simp
                 with_reducible rfl
                rotate_left
                ·
                 simp only [Act.put,za,zb,zc,Zv,Zw]
                 rfl
                refine pure_ (i := 22) (N := some 108) (v := ?_) (a' := ?_) z37B46 rfl rfl (Zu HT_.out (by kernel_rfl)) (fun _ _ _ h => h) (Or.inl ⟨by rfl,?_⟩) ?_ ?_
                rotate_left
                ·
                 intro w'
                 go_simp
                 with_reducible rfl
                rotate_left
                ·
                 simp only [Act.put,za,zb,zc,Zv,Zw]
                 rfl
                refine pure_ (i := 23) (N := some 109) (v := ?_) (a' := ?_) z37B47 rfl rfl (Zu HT_.out (by kernel_rfl)) (fun _ _ _ h => h) (Or.inl ⟨by rfl,?_⟩) ?_ ?_
                rotate_left
                ·
                 intro w'
                 go_simp
                 with_reducible rfl
                rotate_left
                ·
                 simp only [Act.put,za,zb,zc,Zv,Zw]
                 rfl
                refine take_ (i := 24) (N := some 110) (v := ?_) (a' := ?_) z37B48 rfl rfl (take_ofW HT_.out HW_.out (by kernel_rfl)) (fun _ _ _ h => h) (Or.inl ⟨by rfl,?_⟩) hHeld ?_ ?_
                rotate_left
                ·
                 rintro w' ⟨s0,s1,s2,s3,s4,s5,s6,s7,s8,s9,dv⟩
                 go_simp
                 with_reducible rfl
                rotate_left
                ·
                 simp only [Act.put,za,zb,zc,Zv,Zw]
                 rfl
                refine pure_ (i := 25) (N := some 111) (v := ?_) (a' := ?_) z37B49 rfl rfl (Zu HT_.out (by kernel_rfl)) (fun _ _ _ h => h) (Or.inl ⟨by rfl,?_⟩) ?_ ?_
                rotate_left
                ·
                 intro w'
                 go_simp
                 with_reducible rfl
                rotate_left
                ·
                 simp only [Act.put,za,zb,zc,Zv,Zw]
                 rfl
                refine pure_ (i := 26) (N := some 112) (v := ?_) (a' := ?_) z37B50 rfl rfl (Zu HT_.out (by kernel_rfl)) (fun _ _ _ h => h) (Or.inl ⟨by rfl,?_⟩) ?_ ?_
                rotate_left
                ·
                 intro w'
                 go_simp
                 with_reducible rfl
                rotate_left
                ·
                 simp only [Act.put,za,zb,zc,Zv,Zw]
                 rfl
                refine pure_ (i := 27) (N := some 113) (v := ?_) (a' := ?_) z37B51 rfl rfl (Zu HT_.out (by kernel_rfl)) (fun _ _ _ h => h) (Or.inl ⟨by rfl,?_⟩) ?_ ?_
                rotate_left
                ·
                 intro w'
                 go_simp
                 with_reducible rfl
                rotate_left
                ·
                 simp only [Act.put,za,zb,zc,Zv,Zw]
                 rfl
                refine done_ (done_of HT_.out (by kernel_rfl)) ?_
                try go_wp2
                go_meet
                case rel => exact ⟨_,(decide (((rdOf ByteArray.empty l4 ap).size : Int) < 1000)),(by first | rfl | (simp; done) | (simp [*]; done)),H',⟨by have := HJ5.out; have := HK2.out; have := HJ29.out; first | omega | exact Nat.le_refl _⟩,⟨by (with_reducible repeat (first | apply zu | apply zt | apply zs)); exact HO_631004.out⟩,⟨by (with_reducible repeat (first | apply zu | apply zt | apply zs)); exact HO_631005.out⟩,⟨by (with_reducible repeat (first | refine zj ?_ _ | refine zl ?_ | refine zk ?_ _)); exact ac.out⟩,⟨by (with_reducible repeat (first | refine zj ?_ _ | refine zl ?_ | refine zk ?_ _)); exact aa.out⟩,⟨by repeat (first | (with_reducible first | exact HB.out | apply Zq | apply Zp | apply Zo | refine Zn ?_ ax.out | refine Zn ?_ aF.out) | exact HB.out)⟩⟩
              ·
               rw [if_neg fc] at H
               exact absurd H (by simp)
             ·
              rw [if_neg dT] at H
              have fR : decide (ap < (l4.length : Int)) = false := zzo dT
              clear dT
              have H' := zzk H
              clear H
              try go_wp2
              have az := zzk (zs HO_631004.out)
              have aA := zzk (zs HO_631005.out)
              have aB := zzk (zl ac.out)
              have aC := zzk (zl aa.out)
              have aE := zzk (Zo HB.out)
              clear HO_631004
              clear HO_631005
              clear ac
              clear aa
              clear HB
              have HO_631004 := az
              have HO_631005 := aA
              have ac := aB
              have aa := aC
              have HB := aE
              clear az aA aB aC aE
              refine start_ (n := 28) (S := fun w' => True) (ds := []) z37B23 (by kernel_rfl) rfl rfl trivial (fun hHeld => ?_); refine with_tabW L_ChunkWhole.tab11 L_ChunkWhole.bits11 (fun HT_ HW_ => ?_)
              generalize wc.drew = ol at HO_631004 HO_631005 ac aa HB hHeld ⊢
              refine pure_ (i := 0) (N := some 86) (v := ?_) (a' := ?_) z37B24 rfl rfl (Zu HT_.out (by kernel_rfl)) (fun _ _ _ h => h) (Or.inl ⟨by rfl,?_⟩) ?_ ?_
              rotate_left
              ·
               intro w'
               go_simp
               with_reducible rfl
              rotate_left
              ·
               simp only [Act.put,za,zb,zc,Zv,Zw]
               rfl
              refine pure_ (i := 1) (N := some 87) (v := ?_) (a' := ?_) z37B25 rfl rfl (Zu HT_.out (by kernel_rfl)) (fun _ _ _ h => h) (Or.inl ⟨by rfl,?_⟩) ?_ ?_
              rotate_left
              ·
               intro w'
               go_simp
               with_reducible rfl
              rotate_left
              ·
               simp only [Act.put,za,zb,zc,Zv,Zw]
               rfl
              refine pure_ (i := 2) (N := some 88) (v := ?_) (a' := ?_) z37B26 rfl rfl (Zu HT_.out (by kernel_rfl)) (fun _ _ _ h => h) (Or.inl ⟨by rfl,?_⟩) ?_ ?_
              rotate_left
              ·
               intro w'
               go_simp
               with_reducible rfl
              rotate_left
              ·
               simp only [Act.put,za,zb,zc,Zv,Zw]
               rfl
              refine pure_ (i := 3) (N := some 89) (v := ?_) (a' := ?_) z37B27 rfl rfl (Zu HT_.out (by kernel_rfl)) (fun _ _ _ h => h) (Or.inl ⟨by rfl,?_⟩) ?_ ?_
              rotate_left
              ·
               intro w'
               go_simp
               with_reducible rfl
              rotate_left
              ·
               simp only [Act.put,za,zb,zc,Zv,Zw]
               rfl
              refine pure_ (i := 4) (N := some 90) (v := ?_) (a' := ?_) z37B28 rfl rfl (Zu HT_.out (by kernel_rfl)) (fun _ _ _ h => h) (Or.inl ⟨by rfl,?_⟩) ?_ ?_
              rotate_left
              ·
               intro w'
               go_simp
               with_reducible rfl
              rotate_left
              ·
               simp only [Act.put,za,zb,zc,Zv,Zw]
               rfl
              refine pure_ (i := 5) (N := some 91) (v := ?_) (a' := ?_) z37B29 rfl rfl (Zu HT_.out (by kernel_rfl)) (fun _ _ _ h => h) (Or.inl ⟨by rfl,?_⟩) ?_ ?_
              rotate_left
              ·
               intro w'
               go_simp
               with_reducible rfl
              rotate_left
              ·
               simp only [Act.put,za,zb,zc,Zv,Zw]
               rfl
              refine pure_ (i := 6) (N := some 92) (v := ?_) (a' := ?_) z37B30 rfl rfl (Zu HT_.out (by kernel_rfl)) (fun _ _ _ h => h) (Or.inl ⟨by rfl,?_⟩) ?_ ?_
              rotate_left
              ·
               intro w'
               go_simp
               with_reducible rfl
              rotate_left
              ·
               simp only [Act.put,za,zb,zc,Zv,Zw]
               rfl
              refine pure_ (i := 7) (N := some 93) (v := ?_) (a' := ?_) z37B31 rfl rfl (Zu HT_.out (by kernel_rfl)) (fun _ _ _ h => h) (Or.inl ⟨by rfl,?_⟩) ?_ ?_
              rotate_left
              ·
               intro w'
               go_simp
               with_reducible rfl
              rotate_left
              ·
               simp only [Act.put,za,zb,zc,Zv,Zw]
               rfl
              refine pure_ (i := 8) (N := some 94) (v := ?_) (a' := ?_) z37B32 rfl rfl (Zu HT_.out (by kernel_rfl)) (fun _ _ _ h => h) (Or.inl ⟨by rfl,?_⟩) ?_ ?_
              rotate_left
              ·
               intro w'
               go_simp
               with_reducible rfl
              rotate_left
              ·
               simp only [Act.put,za,zb,zc,Zv,Zw]
               rfl
              refine pure_ (i := 9) (N := some 95) (v := ?_) (a' := ?_) z37B33 rfl rfl (Zu HT_.out (by kernel_rfl)) (fun _ _ _ h => h) (Or.inl ⟨by rfl,?_⟩) ?_ ?_
              rotate_left
              ·
               intro w'
               go_simp
               with_reducible rfl
              rotate_left
              ·
               simp only [Act.put,za,zb,zc,Zv,Zw]
               rfl
              refine pure_ (i := 10) (N := some 96) (v := ?_) (a' := ?_) z37B34 rfl rfl (Zu HT_.out (by kernel_rfl)) (fun _ _ _ h => h) (Or.inl ⟨by rfl,?_⟩) ?_ ?_
              rotate_left
              ·
               intro w'
               go_simp
               with_reducible rfl
              rotate_left
              ·
               simp only [Act.put,za,zb,zc,Zv,Zw]
               rfl
              refine pure_ (i := 11) (N := some 97) (v := undef) (a' := ?_) z37B35 rfl rfl (Zu HT_.out (by kernel_rfl)) (fun _ _ _ h => h) (Or.inr ⟨by rfl,rfl⟩) ?_ ?_
              rotate_left
              ·
               simp only [Act.put,za,zb,zc,Zv,Zw]
               rfl
              refine pure_ (i := 12) (N := some 98) (v := undef) (a' := ?_) z37B36 rfl rfl (Zu HT_.out (by kernel_rfl)) (fun _ _ _ h => h) (Or.inr ⟨by rfl,rfl⟩) ?_ ?_
              rotate_left
              ·
               simp only [Act.put,za,zb,zc,Zv,Zw]
               rfl
              refine pure_ (i := 13) (N := some 99) (v := undef) (a' := ?_) z37B37 rfl rfl (Zu HT_.out (by kernel_rfl)) (fun _ _ _ h => h) (Or.inr ⟨by rfl,rfl⟩) ?_ ?_
              rotate_left
              ·
               simp only [Act.put,za,zb,zc,Zv,Zw]
               rfl
              refine pure_ (i := 14) (N := some 100) (v := undef) (a' := ?_) z37B52 rfl rfl (Zu HT_.out (by kernel_rfl)) (fun _ _ _ h => h) (Or.inr ⟨by rfl,rfl⟩) ?_ ?_
              rotate_left
              ·
               simp only [Act.put,za,zb,zc,Zv,Zw]
               rfl
              refine pure_ (i := 15) (N := some 101) (v := undef) (a' := ?_) z37B39 rfl rfl (Zu HT_.out (by kernel_rfl)) (fun _ _ _ h => h) (Or.inr ⟨by rfl,rfl⟩) ?_ ?_
              rotate_left
              ·
               simp only [Act.put,za,zb,zc,Zv,Zw]
               rfl
              refine pure_ (i := 16) (N := some 102) (v := undef) (a' := ?_) z37B40 rfl rfl (Zu HT_.out (by kernel_rfl)) (fun _ _ _ h => h) (Or.inr ⟨by rfl,rfl⟩) ?_ ?_
              rotate_left
              ·
               simp only [Act.put,za,zb,zc,Zv,Zw]
               rfl
              refine pure_ (i := 17) (N := some 103) (v := undef) (a' := ?_) z37B41 rfl rfl (Zu HT_.out (by kernel_rfl)) (fun _ _ _ h => h) (Or.inr ⟨by rfl,rfl⟩) ?_ ?_
              rotate_left
              ·
               simp only [Act.put,za,zb,zc,Zv,Zw]
               rfl
              refine pure_ (i := 18) (N := some 104) (v := undef) (a' := ?_) z37B42 rfl rfl (Zu HT_.out (by kernel_rfl)) (fun _ _ _ h => h) (Or.inr ⟨by rfl,rfl⟩) ?_ ?_
              rotate_left
              ·
               simp only [Act.put,za,zb,zc,Zv,Zw]
               rfl
              refine pure_ (i := 19) (N := some 105) (v := ?_) (a' := ?_) z37B43 rfl rfl (Zu HT_.out (by kernel_rfl)) (fun _ _ _ h => h) (Or.inl ⟨by rfl,?_⟩) ?_ ?_
              rotate_left
              ·
               intro w'
               go_simp
               with_reducible rfl
              rotate_left
              ·
               simp only [Act.put,za,zb,zc,Zv,Zw]
               rfl
              refine pure_ (i := 20) (N := some 106) (v := ?_) (a' := ?_) z37B44 rfl rfl (Zu HT_.out (by kernel_rfl)) (fun _ _ _ h => h) (Or.inl ⟨by rfl,?_⟩) ?_ ?_
              rotate_left
              ·
               intro w'
               go_simp
               with_reducible rfl
              rotate_left
              ·
               simp only [Act.put,za,zb,zc,Zv,Zw]
               rfl
              refine pure_ (i := 21) (N := some 107) (v := undef) (a' := ?_) z37B45 rfl rfl (Zu HT_.out (by kernel_rfl)) (fun _ _ _ h => h) (Or.inr ⟨by rfl,rfl⟩) ?_ ?_
              rotate_left
              ·
               simp only [Act.put,za,zb,zc,Zv,Zw]
               rfl
              refine pure_ (i := 22) (N := some 108) (v := undef) (a' := ?_) z37B46 rfl rfl (Zu HT_.out (by kernel_rfl)) (fun _ _ _ h => h) (Or.inr ⟨by rfl,rfl⟩) ?_ ?_
              rotate_left
              ·
               simp only [Act.put,za,zb,zc,Zv,Zw]
               rfl
              refine pure_ (i := 23) (N := some 109) (v := undef) (a' := ?_) z37B47 rfl rfl (Zu HT_.out (by kernel_rfl)) (fun _ _ _ h => h) (Or.inr ⟨by rfl,rfl⟩) ?_ ?_
              rotate_left
              ·
               simp only [Act.put,za,zb,zc,Zv,Zw]
               rfl
              refine pure_ (i := 24) (N := some 110) (v := undef) (a' := ?_) z37B48 rfl rfl (Zu HT_.out (by kernel_rfl)) (fun _ _ _ h => h) (Or.inr ⟨by rfl,rfl⟩) ?_ ?_
              rotate_left
              ·
               simp only [Act.put,za,zb,zc,Zv,Zw]
               rfl
              refine pure_ (i := 25) (N := some 111) (v := undef) (a' := ?_) z37B49 rfl rfl (Zu HT_.out (by kernel_rfl)) (fun _ _ _ h => h) (Or.inr ⟨by rfl,rfl⟩) ?_ ?_
              rotate_left
              ·
               simp only [Act.put,za,zb,zc,Zv,Zw]
               rfl
              refine pure_ (i := 26) (N := some 112) (v := undef) (a' := ?_) z37B50 rfl rfl (Zu HT_.out (by kernel_rfl)) (fun _ _ _ h => h) (Or.inr ⟨by rfl,rfl⟩) ?_ ?_
              rotate_left
              ·
               simp only [Act.put,za,zb,zc,Zv,Zw]
               rfl
              refine pure_ (i := 27) (N := some 113) (v := ?_) (a' := ?_) z37B51 rfl rfl (Zu HT_.out (by kernel_rfl)) (fun _ _ _ h => h) (Or.inl ⟨by rfl,?_⟩) ?_ ?_
              rotate_left
              ·
               intro w'
               go_simp
               with_reducible rfl
              rotate_left
              ·
               simp only [Act.put,za,zb,zc,Zv,Zw]
               rfl
              refine done_ (done_of HT_.out (by kernel_rfl)) ?_
              try go_wp2
              go_meet
              case rel => exact ⟨_,(false),(by first | rfl | (simp; done) | (simp [*]; done)),H',⟨by have := HJ5.out; have := HK2.out; have := HJ29.out; first | omega | exact Nat.le_refl _⟩,⟨by (with_reducible repeat (first | apply zu | apply zt | apply zs)); exact HO_631004.out⟩,⟨by (with_reducible repeat (first | apply zu | apply zt | apply zs)); exact HO_631005.out⟩,⟨by (with_reducible repeat (first | refine zj ?_ _ | refine zl ?_ | refine zk ?_ _)); exact ac.out⟩,⟨by (with_reducible repeat (first | refine zj ?_ _ | refine zl ?_ | refine zk ?_ _)); exact aa.out⟩,⟨by repeat (first | (with_reducible first | exact HB.out | apply Zq | apply Zp | apply Zo | refine Zn ?_ ax.out | refine Zn ?_ aF.out) | exact HB.out)⟩⟩
            ·
             rw [if_neg dS] at H
             have du : decide (ap < (l3.length : Int)) = false := zzo dS
             clear dS
             (first | rw [du] | (simp only [Zv,Zw]; rw [du]) | skip)
             have H' := zzk H
             clear H
             try go_wp2
             have az := zzk (zs HO_631004.out)
             have aA := zzk (zs HO_631005.out)
             have aB := zzk (zl ac.out)
             have aC := zzk (zl aa.out)
             have aE := zzk (Zo HB.out)
             clear HO_631004
             clear HO_631005
             clear ac
             clear aa
             clear HB
             have HO_631004 := az
             have HO_631005 := aA
             have ac := aB
             have aa := aC
             have HB := aE
             clear az aA aB aC aE
             refine start_ (n := 28) (S := fun w' => True) (ds := []) z37B23 (by kernel_rfl) rfl rfl trivial (fun hHeld => ?_); refine with_tabW L_ChunkWhole.tab11 L_ChunkWhole.bits11 (fun HT_ HW_ => ?_)
             generalize wc.drew = om at HO_631004 HO_631005 ac aa HB hHeld ⊢
             refine pure_ (i := 0) (N := some 86) (v := ?_) (a' := ?_) z37B24 rfl rfl (Zu HT_.out (by kernel_rfl)) (fun _ _ _ h => h) (Or.inl ⟨by rfl,?_⟩) ?_ ?_
             rotate_left
             ·
              intro w'
              go_simp
              with_reducible rfl
             rotate_left
             ·
              simp only [Act.put,za,zb,zc,Zv,Zw]
              rfl
             refine pure_ (i := 1) (N := some 87) (v := ?_) (a' := ?_) z37B25 rfl rfl (Zu HT_.out (by kernel_rfl)) (fun _ _ _ h => h) (Or.inl ⟨by rfl,?_⟩) ?_ ?_
             rotate_left
             ·
              intro w'
              go_simp
              with_reducible rfl
             rotate_left
             ·
              simp only [Act.put,za,zb,zc,Zv,Zw]
              rfl
             refine pure_ (i := 2) (N := some 88) (v := ?_) (a' := ?_) z37B26 rfl rfl (Zu HT_.out (by kernel_rfl)) (fun _ _ _ h => h) (Or.inl ⟨by rfl,?_⟩) ?_ ?_
             rotate_left
             ·
              intro w'
              go_simp
              with_reducible rfl
             rotate_left
             ·
              simp only [Act.put,za,zb,zc,Zv,Zw]
              rfl
             refine pure_ (i := 3) (N := some 89) (v := ?_) (a' := ?_) z37B27 rfl rfl (Zu HT_.out (by kernel_rfl)) (fun _ _ _ h => h) (Or.inl ⟨by rfl,?_⟩) ?_ ?_
             rotate_left
             ·
              intro w'
              go_simp
              with_reducible rfl
             rotate_left
             ·
              simp only [Act.put,za,zb,zc,Zv,Zw]
              rfl
             refine pure_ (i := 4) (N := some 90) (v := ?_) (a' := ?_) z37B28 rfl rfl (Zu HT_.out (by kernel_rfl)) (fun _ _ _ h => h) (Or.inl ⟨by rfl,?_⟩) ?_ ?_
             rotate_left
             ·
              intro w'
              go_simp
              with_reducible rfl
             rotate_left
             ·
              simp only [Act.put,za,zb,zc,Zv,Zw]
              rfl
             refine pure_ (i := 5) (N := some 91) (v := undef) (a' := ?_) z37B29 rfl rfl (Zu HT_.out (by kernel_rfl)) (fun _ _ _ h => h) (Or.inr ⟨by rfl,rfl⟩) ?_ ?_
             rotate_left
             ·
              simp only [Act.put,za,zb,zc,Zv,Zw]
              rfl
             refine pure_ (i := 6) (N := some 92) (v := undef) (a' := ?_) z37B30 rfl rfl (Zu HT_.out (by kernel_rfl)) (fun _ _ _ h => h) (Or.inr ⟨by rfl,rfl⟩) ?_ ?_
             rotate_left
             ·
              simp only [Act.put,za,zb,zc,Zv,Zw]
              rfl
             refine pure_ (i := 7) (N := some 93) (v := undef) (a' := ?_) z37B31 rfl rfl (Zu HT_.out (by kernel_rfl)) (fun _ _ _ h => h) (Or.inr ⟨by rfl,rfl⟩) ?_ ?_
             rotate_left
             ·
              simp only [Act.put,za,zb,zc,Zv,Zw]
              rfl
             refine pure_ (i := 8) (N := some 94) (v := undef) (a' := ?_) z37B32 rfl rfl (Zu HT_.out (by kernel_rfl)) (fun _ _ _ h => h) (Or.inr ⟨by rfl,rfl⟩) ?_ ?_
             rotate_left
             ·
              simp only [Act.put,za,zb,zc,Zv,Zw]
              rfl
             refine pure_ (i := 9) (N := some 95) (v := ?_) (a' := ?_) z37B33 rfl rfl (Zu HT_.out (by kernel_rfl)) (fun _ _ _ h => h) (Or.inl ⟨by rfl,?_⟩) ?_ ?_
             rotate_left
             ·
              intro w'
              go_simp
              with_reducible rfl
             rotate_left
             ·
              simp only [Act.put,za,zb,zc,Zv,Zw]
              rfl
             refine pure_ (i := 10) (N := some 96) (v := ?_) (a' := ?_) z37B34 rfl rfl (Zu HT_.out (by kernel_rfl)) (fun _ _ _ h => h) (Or.inl ⟨by rfl,?_⟩) ?_ ?_
             rotate_left
             ·
              intro w'
              go_simp
              with_reducible rfl
             rotate_left
             ·
              simp only [Act.put,za,zb,zc,Zv,Zw]
              rfl
             refine pure_ (i := 11) (N := some 97) (v := undef) (a' := ?_) z37B35 rfl rfl (Zu HT_.out (by kernel_rfl)) (fun _ _ _ h => h) (Or.inr ⟨by rfl,rfl⟩) ?_ ?_
             rotate_left
             ·
              simp only [Act.put,za,zb,zc,Zv,Zw]
              rfl
             refine pure_ (i := 12) (N := some 98) (v := undef) (a' := ?_) z37B36 rfl rfl (Zu HT_.out (by kernel_rfl)) (fun _ _ _ h => h) (Or.inr ⟨by rfl,rfl⟩) ?_ ?_
             rotate_left
             ·
              simp only [Act.put,za,zb,zc,Zv,Zw]
              rfl
             refine pure_ (i := 13) (N := some 99) (v := undef) (a' := ?_) z37B37 rfl rfl (Zu HT_.out (by kernel_rfl)) (fun _ _ _ h => h) (Or.inr ⟨by rfl,rfl⟩) ?_ ?_
             rotate_left
             ·
              simp only [Act.put,za,zb,zc,Zv,Zw]
              rfl
             refine pure_ (i := 14) (N := some 100) (v := undef) (a' := ?_) z37B52 rfl rfl (Zu HT_.out (by kernel_rfl)) (fun _ _ _ h => h) (Or.inr ⟨by rfl,rfl⟩) ?_ ?_
             rotate_left
             ·
              simp only [Act.put,za,zb,zc,Zv,Zw]
              rfl
             refine pure_ (i := 15) (N := some 101) (v := undef) (a' := ?_) z37B39 rfl rfl (Zu HT_.out (by kernel_rfl)) (fun _ _ _ h => h) (Or.inr ⟨by rfl,rfl⟩) ?_ ?_
             rotate_left
             ·
              simp only [Act.put,za,zb,zc,Zv,Zw]
              rfl
             refine pure_ (i := 16) (N := some 102) (v := undef) (a' := ?_) z37B40 rfl rfl (Zu HT_.out (by kernel_rfl)) (fun _ _ _ h => h) (Or.inr ⟨by rfl,rfl⟩) ?_ ?_
             rotate_left
             ·
              simp only [Act.put,za,zb,zc,Zv,Zw]
              rfl
             refine pure_ (i := 17) (N := some 103) (v := undef) (a' := ?_) z37B41 rfl rfl (Zu HT_.out (by kernel_rfl)) (fun _ _ _ h => h) (Or.inr ⟨by rfl,rfl⟩) ?_ ?_
             rotate_left
             ·
              simp only [Act.put,za,zb,zc,Zv,Zw]
              rfl
             refine pure_ (i := 18) (N := some 104) (v := undef) (a' := ?_) z37B42 rfl rfl (Zu HT_.out (by kernel_rfl)) (fun _ _ _ h => h) (Or.inr ⟨by rfl,rfl⟩) ?_ ?_
             rotate_left
             ·
              simp only [Act.put,za,zb,zc,Zv,Zw]
              rfl
             refine pure_ (i := 19) (N := some 105) (v := ?_) (a' := ?_) z37B43 rfl rfl (Zu HT_.out (by kernel_rfl)) (fun _ _ _ h => h) (Or.inl ⟨by rfl,?_⟩) ?_ ?_
             rotate_left
             ·
              intro w'
              go_simp
              with_reducible rfl
             rotate_left
             ·
              simp only [Act.put,za,zb,zc,Zv,Zw]
              rfl
             refine pure_ (i := 20) (N := some 106) (v := ?_) (a' := ?_) z37B44 rfl rfl (Zu HT_.out (by kernel_rfl)) (fun _ _ _ h => h) (Or.inl ⟨by rfl,?_⟩) ?_ ?_
             rotate_left
             ·
              intro w'
              go_simp
              with_reducible rfl
             rotate_left
             ·
              simp only [Act.put,za,zb,zc,Zv,Zw]
              rfl
             refine pure_ (i := 21) (N := some 107) (v := undef) (a' := ?_) z37B45 rfl rfl (Zu HT_.out (by kernel_rfl)) (fun _ _ _ h => h) (Or.inr ⟨by rfl,rfl⟩) ?_ ?_
             rotate_left
             ·
              simp only [Act.put,za,zb,zc,Zv,Zw]
              rfl
             refine pure_ (i := 22) (N := some 108) (v := undef) (a' := ?_) z37B46 rfl rfl (Zu HT_.out (by kernel_rfl)) (fun _ _ _ h => h) (Or.inr ⟨by rfl,rfl⟩) ?_ ?_
             rotate_left
             ·
              simp only [Act.put,za,zb,zc,Zv,Zw]
              rfl
             refine pure_ (i := 23) (N := some 109) (v := undef) (a' := ?_) z37B47 rfl rfl (Zu HT_.out (by kernel_rfl)) (fun _ _ _ h => h) (Or.inr ⟨by rfl,rfl⟩) ?_ ?_
             rotate_left
             ·
              simp only [Act.put,za,zb,zc,Zv,Zw]
              rfl
             refine pure_ (i := 24) (N := some 110) (v := undef) (a' := ?_) z37B48 rfl rfl (Zu HT_.out (by kernel_rfl)) (fun _ _ _ h => h) (Or.inr ⟨by rfl,rfl⟩) ?_ ?_
             rotate_left
             ·
              simp only [Act.put,za,zb,zc,Zv,Zw]
              rfl
             refine pure_ (i := 25) (N := some 111) (v := undef) (a' := ?_) z37B49 rfl rfl (Zu HT_.out (by kernel_rfl)) (fun _ _ _ h => h) (Or.inr ⟨by rfl,rfl⟩) ?_ ?_
             rotate_left
             ·
              simp only [Act.put,za,zb,zc,Zv,Zw]
              rfl
             refine pure_ (i := 26) (N := some 112) (v := undef) (a' := ?_) z37B50 rfl rfl (Zu HT_.out (by kernel_rfl)) (fun _ _ _ h => h) (Or.inr ⟨by rfl,rfl⟩) ?_ ?_
             rotate_left
             ·
              simp only [Act.put,za,zb,zc,Zv,Zw]
              rfl
             refine pure_ (i := 27) (N := some 113) (v := ?_) (a' := ?_) z37B51 rfl rfl (Zu HT_.out (by kernel_rfl)) (fun _ _ _ h => h) (Or.inl ⟨by rfl,?_⟩) ?_ ?_
             rotate_left
             ·
              intro w'
              go_simp
              with_reducible rfl
             rotate_left
             ·
              simp only [Act.put,za,zb,zc,Zv,Zw]
              rfl
             refine done_ (done_of HT_.out (by kernel_rfl)) ?_
             try go_wp2
             go_meet
             case rel => exact ⟨_,(false),(by first | rfl | (simp; done) | (simp [*]; done)),H',⟨by have := HJ5.out; have := HK2.out; have := HJ29.out; first | omega | exact Nat.le_refl _⟩,⟨by (with_reducible repeat (first | apply zu | apply zt | apply zs)); exact HO_631004.out⟩,⟨by (with_reducible repeat (first | apply zu | apply zt | apply zs)); exact HO_631005.out⟩,⟨by (with_reducible repeat (first | refine zj ?_ _ | refine zl ?_ | refine zk ?_ _)); exact ac.out⟩,⟨by (with_reducible repeat (first | refine zj ?_ _ | refine zl ?_ | refine zk ?_ _)); exact aa.out⟩,⟨by repeat (first | (with_reducible first | exact HB.out | apply Zq | apply Zp | apply Zo | refine Zn ?_ ax.out | refine Zn ?_ aF.out) | exact HB.out)⟩⟩
           case rest =>
            clear fA
            try clear p2
            try clear c5
            try clear dS
            try clear du
            try clear dT
            try clear fR
            try clear fc
            obtain ⟨kq,dt,rfl,HA,HJ48,HO_631004,HO_631005,ac,aa,HB⟩ := hcut
            cases kq with
            | zero => exact absurd HA.out (by simp [L_ChunkWhole.j3])
            | succ cn =>
             have H := HA.out
             clear HA
             simp only [L_ChunkWhole.j3] at H
             have fC := zzk H
             clear H
             go_upto_if 113 with (fail)
             go_cut [] (fun wc => ∃ (kq : Nat),Aside0 (L_ChunkWhole.j4 kq l3 l4 ap au av aq ar an am al ak aj ah ag ai ae true = some r) ∧ Aside0 (kq ≤ cn) ∧ Aside0 (Kd.R (Kd.int .i64) 3 wc w.heap.size (fun k_ => some k_ ≠ (aR : Value).ownBlock) aQ ah) ∧ Aside0 (Kd.R (Kd.int .i64) 3 wc w.heap.size (fun k_ => some k_ ≠ (aQ : Value).ownBlock) aR ag) ∧ Aside0 (wc.heap[ao]? = some (.cells #[.int .i64 au,.int .i64 av,(.slice aG aq.length aH),(.slice aI ar.length aJ),.string an] 26 (0,0))) ∧ Aside0 (wc.heap[ab]? = some (.cells #[.int .i64 am,.int .i64 al,.int .i64 ak,.int .i64 aj,aQ,aR,.int .i64 ai,.string ae,.bool true] 34 (0,0))) ∧ Aside0 (Below w.heap.size w wc))
             case first =>
              have H := fC.out
              clear fC
              by_cases fd : dt = true
              ·
               subst fd
               have H1 : (if 0 ≤ ap then (if ap < (l3.length : Int) then (if ap < (l4.length : Int) then ((chunk_Take.f cn am al ak aj ah ag ai ae true (rd l3 ap) (rdOf ByteArray.empty l4 ap)).bind fun bk => (if bk.2.2.2.2.2.2.2.2.2.1 = true then (none) else (if bk.2.2.2.2.2.2.2.2.2.2 = 0 then ((r16_Same.f cn am al ak aj ah ag ai ae true bk.1 bk.2.1 bk.2.2.1 bk.2.2.2.1 bk.2.2.2.2.1 bk.2.2.2.2.2.1 bk.2.2.2.2.2.2.1 bk.2.2.2.2.2.2.2.1 bk.2.2.2.2.2.2.2.2.1).bind fun cW => (if cW = true then (L_ChunkWhole.j4 cn l3 l4 ap au av aq ar an am al ak aj ah ag ai ae true) else (none))) else (none)))) else (none)) else (none)) else (none)) = some r := by rw [if_pos rfl] at H; exact H
               clear H
               have H := H1
               clear H1
               by_cases fe : 0 ≤ ap
               ·
                rw [if_pos fe] at H
                have eJ : decide (0 ≤ ap) = true := zzn fe
                clear fe
                (first | rw [eJ] | (simp only [Zv,Zw]; rw [eJ]) | skip)
                by_cases fg : ap < (l3.length : Int)
                ·
                 rw [if_pos fg] at H
                 have iE : decide (ap < (l3.length : Int)) = true := zzn fg
                 clear fg
                 by_cases fh : ap < (l4.length : Int)
                 ·
                  rw [if_pos fh] at H
                  have iF : decide (ap < (l4.length : Int)) = true := zzn fh
                  clear fh
                  replace H := Option.bind_eq_some_iff.mp H
                  obtain ⟨⟨bu,bw,bB,bE,bx,bC,bJ,bN,bT,ik,cZ⟩,il,H⟩ := H
                  replace H : (if ik = true then (none) else (if cZ = 0 then ((r16_Same.f cn am al ak aj ah ag ai ae true bu bw bB bE bx bC bJ bN bT).bind fun cW => (if cW = true then (L_ChunkWhole.j4 cn l3 l4 ap au av aq ar an am al ak aj ah ag ai ae true) else (none))) else (none))) = some r := H
                  have iP := zzk il
                  clear il
                  by_cases fi : ik = true
                  ·
                   subst fi
                   have H1 : (none) = some r := by rw [if_pos rfl] at H; exact H
                   clear H
                   have H := H1
                   clear H1
                   exact absurd H (by simp)
                  ·
                   replace fi := Bool.eq_false_iff.mpr fi
                   subst fi
                   have H1 : (if cZ = 0 then ((r16_Same.f cn am al ak aj ah ag ai ae true bu bw bB bE bx bC bJ bN bT).bind fun cW => (if cW = true then (L_ChunkWhole.j4 cn l3 l4 ap au av aq ar an am al ak aj ah ag ai ae true) else (none))) else (none)) = some r := by rw [if_neg (show ¬ (false = true) by decide)] at H; exact H
                   clear H
                   have H := H1
                   clear H1
                   by_cases eG : cZ = 0
                   ·
                    rw [if_pos eG] at H
                    have iG : (cZ == 0) = true := beq_iff_eq.mpr eG
                    have iH : (cZ != 0) = false := bne_eq_false_iff_eq.mpr eG
                    clear eG
                    replace H := Option.bind_eq_some_iff.mp H
                    obtain ⟨cW,im,H⟩ := H
                    replace H : (if cW = true then (L_ChunkWhole.j4 cn l3 l4 ap au av aq ar an am al ak aj ah ag ai ae true) else (none)) = some r := H
                    have mU := zzk im
                    clear im
                    by_cases fj : cW = true
                    ·
                     subst fj
                     have H1 : (L_ChunkWhole.j4 cn l3 l4 ap au av aq ar an am al ak aj ah ag ai ae true) = some r := by rw [if_pos rfl] at H; exact H
                     clear H
                     have H := H1
                     clear H1
                     have H' := zzk H
                     clear H
                     obtain ⟨bo,bm,eo68⟩ := zz HO_631004.out
                     subst eo68
                     obtain ⟨bq,bn,eo69⟩ := zz HO_631005.out
                     subst eo69
                     try go_wp2
                     have az := zzk (zs HO_631004.out)
                     have aA := zzk (zs HO_631005.out)
                     have aB := zzk (zl ac.out)
                     have aC := zzk (zl aa.out)
                     have aE := zzk (Zo HB.out)
                     clear HO_631004
                     clear HO_631005
                     clear ac
                     clear aa
                     clear HB
                     have HO_631004 := az
                     have HO_631005 := aA
                     have ac := aB
                     have aa := aC
                     have HB := aE
                     clear az aA aB aC aE
                     have p636 : 0 ≤ (ap : Int) := of_decide_eq_true (by first | (with_reducible assumption) | assumption)
                     have eK : ap < (l3.length : Int) := of_decide_eq_true (by first | (with_reducible assumption) | assumption)
                     obtain ⟨ad636,e636,hx636_0⟩ := Kd.at_int ia.out ap p636 eK
                     have hw636_0 := hx636_0
                     cases e636
                     replace hx636_0 := (HB.out.cell (World.block_lt_of_cell? w _ hx636_0)).trans hx636_0
                     replace p636 := eq_true p636
                     replace eK := eq_true eK
                     have p637 : 0 ≤ (ap : Int) := of_decide_eq_true (by first | (with_reducible assumption) | assumption)
                     have eL : ap < (l4.length : Int) := of_decide_eq_true (by first | (with_reducible assumption) | assumption)
                     obtain ⟨ad637,e637,hx637_0⟩ := Kd.at_string iN.out ap p637 eL
                     have hw637_0 := hx637_0
                     cases e637
                     replace hx637_0 := (HB.out.cell (World.block_lt_of_cell? w _ hx637_0)).trans hx637_0
                     replace p637 := eq_true p637
                     replace eL := eq_true eL
                     refine start_ (n := 18) (S := fun w' => w'.cell? ⟨ab,0,none⟩ = some (.int .i64 am) ∧ w'.cell? ⟨ab,1,none⟩ = some (.int .i64 al) ∧ w'.cell? ⟨ab,2,none⟩ = some (.int .i64 ak) ∧ w'.cell? ⟨ab,3,none⟩ = some (.int .i64 aj) ∧ w'.cell? ⟨ab,4,none⟩ = some (.slice bo ah.length bm) ∧ w'.cell? ⟨ab,5,none⟩ = some (.slice bq ag.length bn) ∧ w'.cell? ⟨ab,6,none⟩ = some (.int .i64 ai) ∧ w'.cell? ⟨ab,7,none⟩ = some (.string ae) ∧ w'.cell? ⟨ab,8,none⟩ = some (.bool true) ∧ w'.cell? (ad636.add (ap).toNat) = some (.int .i64 (rd l3 ap)) ∧ w'.cell? (ad637.add (ap).toNat) = some (.string (rdOf ByteArray.empty l4 ap))) (ds := []) #[false,false,false,false,false,false,false,false,false,false,false,false,false,false,false,false,false,false] (by kernel_rfl) rfl rfl ⟨(zi aa.out 0).trans rfl,(zi aa.out 1).trans rfl,(zi aa.out 2).trans rfl,(zi aa.out 3).trans rfl,(zi aa.out 4).trans rfl,(zi aa.out 5).trans rfl,(zi aa.out 6).trans rfl,(zi aa.out 7).trans rfl,(zi aa.out 8).trans rfl,((HB.out.cell (World.block_lt_of_cell? w _ hw636_0)).trans hw636_0),((HB.out.cell (World.block_lt_of_cell? w _ hw637_0)).trans hw637_0)⟩ (fun hHeld => ?_); refine with_tabW L_ChunkWhole.tab12 L_ChunkWhole.bits12 (fun HT_ HW_ => ?_)
                     generalize wc.drew = oo at HO_631004 HO_631005 ac aa HB hx636_0 hx637_0 hHeld ⊢
                     refine pure_ (i := 1) (N := some 116) (v := ?_) (a' := ?_) #[false,true,false,false,false,false,false,false,false,false,false,false,false,false,false,false,false,false] rfl rfl (Zu HT_.out (by kernel_rfl)) (fun _ _ _ h => h) (Or.inl ⟨by rfl,?_⟩) ?_ ?_
                     rotate_left
                     ·
                      intro w'
                      go_simp
                      with_reducible rfl
                     rotate_left
                     ·
                      simp only [Act.put,za,zb,zc,Zv,Zw]
                      rfl
                     refine pure_ (i := 2) (N := some 117) (v := ?_) (a' := ?_) #[false,true,true,false,false,false,false,false,false,false,false,false,false,false,false,false,false,false] rfl rfl (Zu HT_.out (by kernel_rfl)) (fun _ _ _ h => h) (Or.inl ⟨by rfl,?_⟩) ?_ ?_
                     rotate_left
                     ·
                      intro w'
                      go_simp
                      with_reducible rfl
                     rotate_left
                     ·
                      simp only [Act.put,za,zb,zc,Zv,Zw]
                      rfl
                     refine pure_ (i := 3) (N := some 118) (v := ?_) (a' := ?_) #[false,true,true,true,false,false,false,false,false,false,false,false,false,false,false,false,false,false] rfl rfl (Zu HT_.out (by kernel_rfl)) (fun _ _ _ h => h) (Or.inl ⟨by rfl,?_⟩) ?_ ?_
                     rotate_left
                     ·
                      intro w'
                      go_simp
                      with_reducible rfl
                     rotate_left
                     ·
                      simp only [Act.put,za,zb,zc,Zv,Zw]
                      rfl
                     refine pure_ (i := 5) (N := some 120) (v := ?_) (a' := ?_) #[false,true,true,true,false,true,false,false,false,false,false,false,false,false,false,false,false,false] rfl rfl (Zu HT_.out (by kernel_rfl)) (fun _ _ _ h => h) (Or.inl ⟨by rfl,?_⟩) ?_ ?_
                     rotate_left
                     ·
                      intro w'
                      go_simp
                      with_reducible rfl
                     rotate_left
                     ·
                      simp only [Act.put,za,zb,zc,Zv,Zw]
                      rfl
                     refine pure_ (i := 6) (N := some 121) (v := ?_) (a' := ?_) #[false,true,true,true,false,true,true,false,false,false,false,false,false,false,false,false,false,false] rfl rfl (Zu HT_.out (by kernel_rfl)) (fun _ _ _ h => h) (Or.inl ⟨by rfl,?_⟩) ?_ ?_
                     rotate_left
                     ·
                      intro w'
                      go_simp
                      with_reducible rfl
                     rotate_left
                     ·
                      simp only [Act.put,za,zb,zc,Zv,Zw]
                      rfl
                     refine pure_ (i := 7) (N := some 122) (v := ?_) (a' := ?_) #[false,true,true,true,false,true,true,true,false,false,false,false,false,false,false,false,false,false] rfl rfl (Zu HT_.out (by kernel_rfl)) (fun _ _ _ h => h) (Or.inl ⟨by rfl,?_⟩) ?_ ?_
                     rotate_left
                     ·
                      intro w'
                      go_simp
                      with_reducible rfl
                     rotate_left
                     ·
                      simp only [Act.put,za,zb,zc,Zv,Zw]
                      rfl
                     refine take_ (i := 0) (N := some 115) (v := ?_) (a' := ?_) #[true,true,true,true,false,true,true,true,false,false,false,false,false,false,false,false,false,false] rfl rfl (take_ofW HT_.out HW_.out (by kernel_rfl)) (fun _ _ _ h => h) (Or.inl ⟨by rfl,?_⟩) hHeld ?_ ?_
                     rotate_left
                     ·
                      rintro w' ⟨s0,s1,s2,s3,s4,s5,s6,s7,s8,s9,dv⟩
                      go_simp
                      with_reducible rfl
                     rotate_left
                     ·
                      simp only [Act.put,za,zb,zc,Zv,Zw]
                      rfl
                     refine take_ (i := 4) (N := some 119) (v := ?_) (a' := ?_) #[true,true,true,true,true,true,true,true,false,false,false,false,false,false,false,false,false,false] rfl rfl (take_ofW HT_.out HW_.out (by kernel_rfl)) (fun _ _ _ h => h) (Or.inl ⟨by rfl,?_⟩) hHeld ?_ ?_
                     rotate_left
                     ·
                      rintro w' ⟨s0,s1,s2,s3,s4,s5,s6,s7,s8,s9,dv⟩
                      go_simp
                      with_reducible rfl
                     rotate_left
                     ·
                      simp only [Act.put,za,zb,zc,Zv,Zw]
                      rfl
                     refine take_ (i := 8) (N := some 123) (v := ?_) (a' := ?_) #[true,true,true,true,true,true,true,true,true,false,false,false,false,false,false,false,false,false] rfl rfl (take_ofW HT_.out HW_.out (by kernel_rfl)) (fun _ _ _ h => h) (Or.inl ⟨by rfl,?_⟩) hHeld ?_ ?_
                     rotate_left
                     ·
                      rintro w' ⟨s0,s1,s2,s3,s4,s5,s6,s7,s8,s9,dv⟩
                      go_simp
                      with_reducible rfl
                     rotate_left
                     ·
                      simp only [Act.put,za,zb,zc,Zv,Zw]
                      rfl
                     refine join_ (σ := Value × Value × Nat) 3 z37B53 (fun s_ => [(124,.tuple #[.agg #[.int .i64 bu,.int .i64 bw,.int .i64 bB,.int .i64 bE,s_.1,s_.2.1,.int .i64 bJ,.string bN,.bool bT],.bool false,.int .i64 cZ]),(14,.pointer (some ⟨s_.2.2,0,none⟩)),(114,.tuple #[.agg #[.int .i64 bu,.int .i64 bw,.int .i64 bB,.int .i64 bE,s_.1,s_.2.1,.int .i64 bJ,.string bN,.bool bT],.bool false,.int .i64 cZ]),(125,.agg #[.int .i64 bu,.int .i64 bw,.int .i64 bB,.int .i64 bE,s_.1,s_.2.1,.int .i64 bJ,.string bN,.bool bT]),(126,.bool false),(127,.int .i64 cZ)]) (fun s_ w' => (w'.cell? ⟨ab,0,none⟩ = some (.int .i64 am) ∧ w'.cell? ⟨ab,1,none⟩ = some (.int .i64 al) ∧ w'.cell? ⟨ab,2,none⟩ = some (.int .i64 ak) ∧ w'.cell? ⟨ab,3,none⟩ = some (.int .i64 aj) ∧ w'.cell? ⟨ab,4,none⟩ = some (.slice bo ah.length bm) ∧ w'.cell? ⟨ab,5,none⟩ = some (.slice bq ag.length bn) ∧ w'.cell? ⟨ab,6,none⟩ = some (.int .i64 ai) ∧ w'.cell? ⟨ab,7,none⟩ = some (.string ae) ∧ w'.cell? ⟨ab,8,none⟩ = some (.bool true) ∧ w'.cell? (ad636.add (ap).toNat) = some (.int .i64 (rd l3 ap)) ∧ w'.cell? (ad637.add (ap).toNat) = some (.string (rdOf ByteArray.empty l4 ap))) ∧ (Kd.R (Kd.int .i64) 3 w' w.heap.size (fun k_ => some k_ ≠ (s_.2.1 : Value).ownBlock ∧ some k_ ≠ (.slice bo ah.length bm : Value).ownBlock ∧ some k_ ≠ (.slice bq ag.length bn : Value).ownBlock) s_.1 bx) ∧ (Kd.R (Kd.int .i64) 3 w' w.heap.size (fun k_ => some k_ ≠ (s_.1 : Value).ownBlock ∧ some k_ ≠ (.slice bo ah.length bm : Value).ownBlock ∧ some k_ ≠ (.slice bq ag.length bn : Value).ownBlock) s_.2.1 bC) ∧ (Kd.R (Kd.int .i64) 3 w' w.heap.size (fun k_ => some k_ ≠ (s_.1 : Value).ownBlock ∧ some k_ ≠ (s_.2.1 : Value).ownBlock ∧ some k_ ≠ (.slice bq ag.length bn : Value).ownBlock) (.slice bo ah.length bm) ah) ∧ (Kd.R (Kd.int .i64) 3 w' w.heap.size (fun k_ => some k_ ≠ (s_.1 : Value).ownBlock ∧ some k_ ≠ (s_.2.1 : Value).ownBlock ∧ some k_ ≠ (.slice bo ah.length bm : Value).ownBlock) (.slice bq ag.length bn) ag) ∧ (w'.heap[ao]? = some (.cells #[.int .i64 au,.int .i64 av,.slice aG aq.length aH,.slice aI ar.length aJ,.string an] 26 (0,0))) ∧ (w'.heap[ab]? = some (.cells #[.int .i64 am,.int .i64 al,.int .i64 ak,.int .i64 aj,.slice bo ah.length bm,.slice bq ag.length bn,.int .i64 ai,.string ae,.bool true] 34 (0,0))) ∧ (w'.heap[s_.2.2]? = some (.cells #[.int .i64 0,.int .i64 0,.int .i64 0,.int .i64 0,.slice none 0 0,.slice none 0 0,.int .i64 0,.string (⟨#[]⟩ : ByteArray),.bool false] 34 (0,0))) ∧ (w.heap.size ≤ s_.2.2) ∧ (w.heap.size ≤ s_.2.2) ∧ (ao ≠ s_.2.2) ∧ (s_.2.2 ≠ ao) ∧ (ab ≠ s_.2.2) ∧ (s_.2.2 ≠ ab) ∧ (Below w.heap.size w w')) ?_ ?_
                     rotate_left
                     ·
                      intro hCont
                      refine two_ (i := 9) (j := 14) (Ni := some 124) (Nj := some 14) #[true,true,true,true,true,true,true,true,true,true,false,false,false,false,false,false,false,false] #[true,true,true,true,true,true,true,true,true,false,false,false,false,false,true,false,false,false] rfl rfl rfl rfl (two_of HT_.out (by kernel_rfl)) (by decide) (by decide) (fun K hK => ?_) (fun K hK => ?_)
                      ·
                       skip
                       refine goes_ Try.func22 (by kernel_rfl) rfl #[.agg #[.int .i64 am,.int .i64 al,.int .i64 ak,.int .i64 aj,.slice bo ah.length bm,.slice bq ag.length bn,.int .i64 ai,.string ae,.bool true],.int .i64 (rd l3 ap),.string (rdOf ByteArray.empty l4 ap)] (by rfl) rfl rfl (by (try simp only [zd,ze,zf]); first | done | rfl | (simp only [zg,zh]; rfl)) ?_
                       with_reducible refine (chunk_Take.calls cn am al ak aj _ _ ah _ _ ag ai ae true (rd l3 ap) (rdOf ByteArray.empty l4 ap) bu bw bB bE bx bC bJ bN bT false cZ _ ?side1 ?side2 ?side3 ?side4 iP.out).mono ?_
                       (case side1 => repeat (first | exact (zw HO_631004.out).2.2 | (with_reducible refine Zk ?_ _) | (with_reducible refine Zj ?_ _) | (with_reducible refine Zl ?_)))
                       (case side2 => exact (zw HO_631004.out).2.1)
                       (case side3 => repeat (first | exact (zw HO_631005.out).2.2 | (with_reducible refine Zk ?_ _) | (with_reducible refine Zj ?_ _) | (with_reducible refine Zl ?_)))
                       (case side4 => exact (zw HO_631005.out).2.1)
                       rintro e mV ⟨dn,dp,rfl,ho0,ho1,hb⟩
                       refine ⟨_,rfl,?_⟩
                       have az := zzk (zx (Zc (Zc (Kd.R_old (by (with_reducible repeat (first | apply zu | apply zt | apply zs)); exact HO_631004.out) hb) (Zd ho0)) (Zd ho1)) (fun _ h_ => h_.1))
                       have aA := zzk (zx (Zc (Zc (Kd.R_old (by (with_reducible repeat (first | apply zu | apply zt | apply zs)); exact HO_631005.out) hb) (Zd ho0)) (Zd ho1)) (fun _ h_ => h_.1))
                       have aB := zzk (Za (Zb (Zb ho0 (Kd.R_lt (by (with_reducible repeat (first | apply zu | apply zt | apply zs)); exact HO_631004.out))) (Kd.R_lt (by (with_reducible repeat (first | apply zu | apply zt | apply zs)); exact HO_631005.out))) (Zr (by repeat (first | (with_reducible first | exact HB.out | apply Zq | apply Zp | apply Zo | refine Zn ?_ ax.out | refine Zn ?_ aF.out) | exact HB.out))))
                       have aC := zzk (Za (Zb (Zb ho1 (Kd.R_lt (by (with_reducible repeat (first | apply zu | apply zt | apply zs)); exact HO_631004.out))) (Kd.R_lt (by (with_reducible repeat (first | apply zu | apply zt | apply zs)); exact HO_631005.out))) (Zr (by repeat (first | (with_reducible first | exact HB.out | apply Zq | apply Zp | apply Zo | refine Zn ?_ ax.out | refine Zn ?_ aF.out) | exact HB.out))))
                       have aE := zzk (zo (g := ao) (o := .cells #[.int .i64 au,.int .i64 av,.slice aG aq.length aH,.slice aI ar.length aJ,.string an] 26 (0,0)) (by (with_reducible repeat (first | refine zj ?_ _ | refine zl ?_ | refine zk ?_ _)); exact ac.out) hb)
                       have aT := zzk (zo (g := ab) (o := .cells #[.int .i64 am,.int .i64 al,.int .i64 ak,.int .i64 aj,.slice bo ah.length bm,.slice bq ag.length bn,.int .i64 ai,.string ae,.bool true] 34 (0,0)) (by (with_reducible repeat (first | refine zj ?_ _ | refine zl ?_ | refine zk ?_ _)); exact aa.out) hb)
                       have aU := zzk (Zs (by repeat (first | (with_reducible first | exact HB.out | apply Zq | apply Zp | apply Zo | refine Zn ?_ ax.out | refine Zn ?_ aF.out) | exact HB.out)) hb)
                       clear HO_631004
                       clear HO_631005
                       clear ac
                       clear aa
                       clear HB
                       have HO_631004 := az
                       have HO_631005 := aA
                       have bX := aB
                       have bY := aC
                       have ac := aE
                       have aa := aT
                       have HB := aU
                       clear az aA aB aC aE aT aU
                       (try clear hb)
                       (try clear hb2)
                       (try clear hk)
                       (try clear hi)
                       (try clear ho0)
                       (try clear ho1)
                       refine hK.out _ _ ⟨(zi aa.out 0).trans rfl,(zi aa.out 1).trans rfl,(zi aa.out 2).trans rfl,(zi aa.out 3).trans rfl,(zi aa.out 4).trans rfl,(zi aa.out 5).trans rfl,(zi aa.out 6).trans rfl,(zi aa.out 7).trans rfl,(zi aa.out 8).trans rfl,((HB.out.cell (World.block_lt_of_cell? w _ hw636_0)).trans hw636_0),((HB.out.cell (World.block_lt_of_cell? w _ hw637_0)).trans hw637_0)⟩ (fun hHeld => ?_)
                       clear hK K
                       refine norm_ (a' := ?_) ?_ ?_
                       rotate_left
                       ·
                        show Act.put _ (some 124) _ = _
                        simp only [Act.put,za,zb,zc,Zv,Zw]
                        rfl
                       refine pure_ (i := 10) (N := some 114) (v := ?_) (a' := ?_) #[true,true,true,true,true,true,true,true,true,true,true,false,false,false,false,false,false,false] rfl rfl (Zu HT_.out (by kernel_rfl)) (fun _ _ _ h => h) (Or.inl ⟨by rfl,?_⟩) ?_ ?_
                       rotate_left
                       ·
                        intro w'
                        go_simp
                        with_reducible rfl
                       rotate_left
                       ·
                        simp only [Act.put,za,zb,zc,Zv,Zw]
                        rfl
                       refine pure_ (i := 11) (N := some 125) (v := ?_) (a' := ?_) #[true,true,true,true,true,true,true,true,true,true,true,true,false,false,false,false,false,false] rfl rfl (Zu HT_.out (by kernel_rfl)) (fun _ _ _ h => h) (Or.inl ⟨by rfl,?_⟩) ?_ ?_
                       rotate_left
                       ·
                        intro w'
                        go_simp
                        with_reducible rfl
                       rotate_left
                       ·
                        simp only [Act.put,za,zb,zc,Zv,Zw]
                        rfl
                       refine pure_ (i := 12) (N := some 126) (v := ?_) (a' := ?_) #[true,true,true,true,true,true,true,true,true,true,true,true,true,false,false,false,false,false] rfl rfl (Zu HT_.out (by kernel_rfl)) (fun _ _ _ h => h) (Or.inl ⟨by rfl,?_⟩) ?_ ?_
                       rotate_left
                       ·
                        intro w'
                        go_simp
                        with_reducible rfl
                       rotate_left
                       ·
                        simp only [Act.put,za,zb,zc,Zv,Zw]
                        rfl
                       refine pure_ (i := 13) (N := some 127) (v := ?_) (a' := ?_) #[true,true,true,true,true,true,true,true,true,true,true,true,true,true,false,false,false,false] rfl rfl (Zu HT_.out (by kernel_rfl)) (fun _ _ _ h => h) (Or.inl ⟨by rfl,?_⟩) ?_ ?_
                       rotate_left
                       ·
                        intro w'
                        go_simp
                        with_reducible rfl
                       rotate_left
                       ·
                        simp only [Act.put,za,zb,zc,Zv,Zw]
                        rfl
                       refine one_ (i := 14) (N := some 14) z37B53 rfl rfl (one_of HT_.out (by kernel_rfl)) (by decide) (fun K hK => ?_)
                       refine box_step ?hg (N := 14) ?hd (cs := #[.int .i64 0,.int .i64 0,.int .i64 0,.int .i64 0,.slice none 0 0,.slice none 0 0,.int .i64 0,.string (⟨#[]⟩ : ByteArray),.bool false]) (t := 34) ?hr ?_; (case hd => rfl); (case hg => rfl); (case hr => first | (go_simp; done) | (go_simp; rfl))
                       intro ad hg mW hbox hb
                       have az := zzk (zv (by (with_reducible repeat (first | apply zu | apply zt | apply zs)); exact HO_631004.out) hb)
                       have aA := zzk (zv (by (with_reducible repeat (first | apply zu | apply zt | apply zs)); exact HO_631005.out) hb)
                       have aB := zzk (zv (by (with_reducible repeat (first | apply zu | apply zt | apply zs)); exact bX.out) hb)
                       have aC := zzk (zv (by (with_reducible repeat (first | apply zu | apply zt | apply zs)); exact bY.out) hb)
                       have aE := zzk (zo (g := ao) (o := .cells #[.int .i64 au,.int .i64 av,.slice aG aq.length aH,.slice aI ar.length aJ,.string an] 26 (0,0)) (by (with_reducible repeat (first | refine zj ?_ _ | refine zl ?_ | refine zk ?_ _)); exact ac.out) hb)
                       have aT := zzk (zo (g := ab) (o := .cells #[.int .i64 am,.int .i64 al,.int .i64 ak,.int .i64 aj,.slice bo ah.length bm,.slice bq ag.length bn,.int .i64 ai,.string ae,.bool true] 34 (0,0)) (by (with_reducible repeat (first | refine zj ?_ _ | refine zl ?_ | refine zk ?_ _)); exact aa.out) hb)
                       have aU := zzk (Zs (by repeat (first | (with_reducible first | exact HB.out | apply Zq | apply Zp | apply Zo | refine Zn ?_ ax.out | refine Zn ?_ aF.out) | exact HB.out)) hb)
                       have bs := zzk (hbox)
                       have cj := zzk ((by rw [hg]; exact (Zr (by repeat (first | (with_reducible first | exact HB.out | apply Zq | apply Zp | apply Zo | refine Zn ?_ ax.out | refine Zn ?_ aF.out) | exact HB.out))) : w.heap.size ≤ ad))
                       have cN := zzk ((by rw [hg]; exact (Zr (by repeat (first | (with_reducible first | exact HB.out | apply Zq | apply Zp | apply Zo | refine Zn ?_ ax.out | refine Zn ?_ aF.out) | exact HB.out))) : w.heap.size ≤ ad))
                       have co := zzk ((by rw [hg]; exact Nat.ne_of_lt (zq (g := ao) (o := .cells #[.int .i64 au,.int .i64 av,.slice aG aq.length aH,.slice aI ar.length aJ,.string an] 26 (0,0)) (by (with_reducible repeat (first | refine zj ?_ _ | refine zl ?_ | refine zk ?_ _)); exact ac.out)) : ao ≠ ad))
                       have cp := zzk ((by rw [hg]; exact Nat.ne_of_gt (zq (g := ao) (o := .cells #[.int .i64 au,.int .i64 av,.slice aG aq.length aH,.slice aI ar.length aJ,.string an] 26 (0,0)) (by (with_reducible repeat (first | refine zj ?_ _ | refine zl ?_ | refine zk ?_ _)); exact ac.out)) : ad ≠ ao))
                       have cK := zzk ((by rw [hg]; exact Nat.ne_of_lt (zq (g := ab) (o := .cells #[.int .i64 am,.int .i64 al,.int .i64 ak,.int .i64 aj,.slice bo ah.length bm,.slice bq ag.length bn,.int .i64 ai,.string ae,.bool true] 34 (0,0)) (by (with_reducible repeat (first | refine zj ?_ _ | refine zl ?_ | refine zk ?_ _)); exact aa.out)) : ab ≠ ad))
                       have cL := zzk ((by rw [hg]; exact Nat.ne_of_gt (zq (g := ab) (o := .cells #[.int .i64 am,.int .i64 al,.int .i64 ak,.int .i64 aj,.slice bo ah.length bm,.slice bq ag.length bn,.int .i64 ai,.string ae,.bool true] 34 (0,0)) (by (with_reducible repeat (first | refine zj ?_ _ | refine zl ?_ | refine zk ?_ _)); exact aa.out)) : ad ≠ ab))
                       clear HO_631004
                       clear HO_631005
                       clear bX
                       clear bY
                       clear ac
                       clear aa
                       clear HB
                       have HO_631004 := az
                       have HO_631005 := aA
                       have bX := aB
                       have bY := aC
                       have ac := aE
                       have aa := aT
                       have HB := aU
                       have aD := bs
                       have aw := cj
                       have cq := cN
                       have aK := co
                       have aV := cp
                       have af := cK
                       have aW := cL
                       clear az aA aB aC aE aT aU bs cj cN co cp cK cL
                       clear hb hbox hg
                       refine hK.out _ _ ⟨(zi aa.out 0).trans rfl,(zi aa.out 1).trans rfl,(zi aa.out 2).trans rfl,(zi aa.out 3).trans rfl,(zi aa.out 4).trans rfl,(zi aa.out 5).trans rfl,(zi aa.out 6).trans rfl,(zi aa.out 7).trans rfl,(zi aa.out 8).trans rfl,((HB.out.cell (World.block_lt_of_cell? w _ hw636_0)).trans hw636_0),((HB.out.cell (World.block_lt_of_cell? w _ hw637_0)).trans hw637_0)⟩ (fun hHeld => ?_)
                       clear hK K
                       refine norm_ (a' := ?_) ?_ ?_
                       rotate_left
                       ·
                        show Act.put _ (some 14) _ = _
                        simp only [Act.put,za,zb,zc,Zv,Zw]
                        rfl
                       exact norm_ (by simp only [putAll,Act.put,za,zb,zc]) (hCont (dn,dp,ad) _ ⟨hHeld,(by (with_reducible repeat (first | apply zu | apply zt | apply zs)); exact zx bX.out (fun _ hk => ⟨hk.1.1,⟨hk.1.2,hk.2⟩⟩)),(by (with_reducible repeat (first | apply zu | apply zt | apply zs)); exact zx bY.out (fun _ hk => ⟨hk.1.1,⟨hk.1.2,hk.2⟩⟩)),(by (with_reducible repeat (first | apply zu | apply zt | apply zs)); exact zx HO_631004.out (fun _ hk => ⟨hk.1.2,⟨hk.2,hk.1.1⟩⟩)),(by (with_reducible repeat (first | apply zu | apply zt | apply zs)); exact zx HO_631005.out (fun _ hk => ⟨hk.1.2,⟨hk.2,hk.1.1⟩⟩)),(by (with_reducible repeat (first | refine zj ?_ _ | refine zl ?_ | refine zk ?_ _)); exact ac.out),(by (with_reducible repeat (first | refine zj ?_ _ | refine zl ?_ | refine zk ?_ _)); exact aa.out),(by (with_reducible repeat (first | refine zj ?_ _ | refine zl ?_ | refine zk ?_ _)); exact aD.out),aw.out,cq.out,aK.out,aV.out,af.out,aW.out,(by repeat (first | (with_reducible first | exact HB.out | apply Zq | apply Zp | apply Zo | refine Zn ?_ ax.out | refine Zn ?_ aF.out | refine Zn ?_ cq.out) | exact HB.out))⟩)
                      ·
                       skip
                       refine box_step ?hg (N := 14) ?hd (cs := #[.int .i64 0,.int .i64 0,.int .i64 0,.int .i64 0,.slice none 0 0,.slice none 0 0,.int .i64 0,.string (⟨#[]⟩ : ByteArray),.bool false]) (t := 34) ?hr ?_; (case hd => rfl); (case hg => rfl); (case hr => first | (go_simp; done) | (go_simp; rfl))
                       intro ad hg mV hbox hb
                       have az := zzk (zv (by (with_reducible repeat (first | apply zu | apply zt | apply zs)); exact HO_631004.out) hb)
                       have aA := zzk (zv (by (with_reducible repeat (first | apply zu | apply zt | apply zs)); exact HO_631005.out) hb)
                       have aB := zzk (zo (g := ao) (o := .cells #[.int .i64 au,.int .i64 av,.slice aG aq.length aH,.slice aI ar.length aJ,.string an] 26 (0,0)) (by (with_reducible repeat (first | refine zj ?_ _ | refine zl ?_ | refine zk ?_ _)); exact ac.out) hb)
                       have aC := zzk (zo (g := ab) (o := .cells #[.int .i64 am,.int .i64 al,.int .i64 ak,.int .i64 aj,.slice bo ah.length bm,.slice bq ag.length bn,.int .i64 ai,.string ae,.bool true] 34 (0,0)) (by (with_reducible repeat (first | refine zj ?_ _ | refine zl ?_ | refine zk ?_ _)); exact aa.out) hb)
                       have aE := zzk (Zs (by repeat (first | (with_reducible first | exact HB.out | apply Zq | apply Zp | apply Zo | refine Zn ?_ ax.out | refine Zn ?_ aF.out) | exact HB.out)) hb)
                       have aT := zzk (hbox)
                       have aU := zzk ((by rw [hg]; exact (Zr (by repeat (first | (with_reducible first | exact HB.out | apply Zq | apply Zp | apply Zo | refine Zn ?_ ax.out | refine Zn ?_ aF.out) | exact HB.out))) : w.heap.size ≤ ad))
                       have bs := zzk ((by rw [hg]; exact (Zr (by repeat (first | (with_reducible first | exact HB.out | apply Zq | apply Zp | apply Zo | refine Zn ?_ ax.out | refine Zn ?_ aF.out) | exact HB.out))) : w.heap.size ≤ ad))
                       have cj := zzk ((by rw [hg]; exact Nat.ne_of_lt (zq (g := ao) (o := .cells #[.int .i64 au,.int .i64 av,.slice aG aq.length aH,.slice aI ar.length aJ,.string an] 26 (0,0)) (by (with_reducible repeat (first | refine zj ?_ _ | refine zl ?_ | refine zk ?_ _)); exact ac.out)) : ao ≠ ad))
                       have cN := zzk ((by rw [hg]; exact Nat.ne_of_gt (zq (g := ao) (o := .cells #[.int .i64 au,.int .i64 av,.slice aG aq.length aH,.slice aI ar.length aJ,.string an] 26 (0,0)) (by (with_reducible repeat (first | refine zj ?_ _ | refine zl ?_ | refine zk ?_ _)); exact ac.out)) : ad ≠ ao))
                       have co := zzk ((by rw [hg]; exact Nat.ne_of_lt (zq (g := ab) (o := .cells #[.int .i64 am,.int .i64 al,.int .i64 ak,.int .i64 aj,.slice bo ah.length bm,.slice bq ag.length bn,.int .i64 ai,.string ae,.bool true] 34 (0,0)) (by (with_reducible repeat (first | refine zj ?_ _ | refine zl ?_ | refine zk ?_ _)); exact aa.out)) : ab ≠ ad))
                       have cp := zzk ((by rw [hg]; exact Nat.ne_of_gt (zq (g := ab) (o := .cells #[.int .i64 am,.int .i64 al,.int .i64 ak,.int .i64 aj,.slice bo ah.length bm,.slice bq ag.length bn,.int .i64 ai,.string ae,.bool true] 34 (0,0)) (by (with_reducible repeat (first | refine zj ?_ _ | refine zl ?_ | refine zk ?_ _)); exact aa.out)) : ad ≠ ab))
                       clear HO_631004
                       clear HO_631005
                       clear ac
                       clear aa
                       clear HB
                       have HO_631004 := az
                       have HO_631005 := aA
                       have ac := aB
                       have aa := aC
                       have HB := aE
                       have aD := aT
                       have aw := aU
                       have cq := bs
                       have aK := cj
                       have aV := cN
                       have af := co
                       have aW := cp
                       clear az aA aB aC aE aT aU bs cj cN co cp
                       clear hb hbox hg
                       refine hK.out _ _ ⟨(zi aa.out 0).trans rfl,(zi aa.out 1).trans rfl,(zi aa.out 2).trans rfl,(zi aa.out 3).trans rfl,(zi aa.out 4).trans rfl,(zi aa.out 5).trans rfl,(zi aa.out 6).trans rfl,(zi aa.out 7).trans rfl,(zi aa.out 8).trans rfl,((HB.out.cell (World.block_lt_of_cell? w _ hw636_0)).trans hw636_0),((HB.out.cell (World.block_lt_of_cell? w _ hw637_0)).trans hw637_0)⟩ (fun hHeld => ?_)
                       clear hK K
                       refine norm_ (a' := ?_) ?_ ?_
                       rotate_left
                       ·
                        show Act.put _ (some 14) _ = _
                        simp only [Act.put,za,zb,zc,Zv,Zw]
                        rfl
                       refine one_ (i := 9) (N := some 124) #[true,true,true,true,true,true,true,true,true,true,false,false,false,false,true,false,false,false] rfl rfl (one_of HT_.out (by kernel_rfl)) (by decide) (fun K hK => ?_)
                       refine goes_ Try.func22 (by kernel_rfl) rfl #[.agg #[.int .i64 am,.int .i64 al,.int .i64 ak,.int .i64 aj,.slice bo ah.length bm,.slice bq ag.length bn,.int .i64 ai,.string ae,.bool true],.int .i64 (rd l3 ap),.string (rdOf ByteArray.empty l4 ap)] (by rfl) rfl rfl (by (try simp only [zd,ze,zf]); first | done | rfl | (simp only [zg,zh]; rfl)) ?_
                       with_reducible refine (chunk_Take.calls cn am al ak aj _ _ ah _ _ ag ai ae true (rd l3 ap) (rdOf ByteArray.empty l4 ap) bu bw bB bE bx bC bJ bN bT false cZ _ ?side1 ?side2 ?side3 ?side4 iP.out).mono ?_
                       (case side1 => repeat (first | exact (zw HO_631004.out).2.2 | (with_reducible refine Zk ?_ _) | (with_reducible refine Zj ?_ _) | (with_reducible refine Zl ?_)))
                       (case side2 => exact (zw HO_631004.out).2.1)
                       (case side3 => repeat (first | exact (zw HO_631005.out).2.2 | (with_reducible refine Zk ?_ _) | (with_reducible refine Zj ?_ _) | (with_reducible refine Zl ?_)))
                       (case side4 => exact (zw HO_631005.out).2.1)
                       rintro e mW ⟨dn,dp,rfl,ho0,ho1,hb⟩
                       refine ⟨_,rfl,?_⟩
                       have az := zzk (zx (Zc (Zc (Kd.R_old (by (with_reducible repeat (first | apply zu | apply zt | apply zs)); exact HO_631004.out) hb) (Zd ho0)) (Zd ho1)) (fun _ h_ => h_.1))
                       have aA := zzk (zx (Zc (Zc (Kd.R_old (by (with_reducible repeat (first | apply zu | apply zt | apply zs)); exact HO_631005.out) hb) (Zd ho0)) (Zd ho1)) (fun _ h_ => h_.1))
                       have aB := zzk (Za (Zb (Zb ho0 (Kd.R_lt (by (with_reducible repeat (first | apply zu | apply zt | apply zs)); exact HO_631004.out))) (Kd.R_lt (by (with_reducible repeat (first | apply zu | apply zt | apply zs)); exact HO_631005.out))) (Zr (by repeat (first | (with_reducible first | exact HB.out | apply Zq | apply Zp | apply Zo | refine Zn ?_ ax.out | refine Zn ?_ aF.out | refine Zn ?_ cq.out) | exact HB.out))))
                       have aC := zzk (Za (Zb (Zb ho1 (Kd.R_lt (by (with_reducible repeat (first | apply zu | apply zt | apply zs)); exact HO_631004.out))) (Kd.R_lt (by (with_reducible repeat (first | apply zu | apply zt | apply zs)); exact HO_631005.out))) (Zr (by repeat (first | (with_reducible first | exact HB.out | apply Zq | apply Zp | apply Zo | refine Zn ?_ ax.out | refine Zn ?_ aF.out | refine Zn ?_ cq.out) | exact HB.out))))
                       have aE := zzk (zo (g := ao) (o := .cells #[.int .i64 au,.int .i64 av,.slice aG aq.length aH,.slice aI ar.length aJ,.string an] 26 (0,0)) (by (with_reducible repeat (first | refine zj ?_ _ | refine zl ?_ | refine zk ?_ _)); exact ac.out) hb)
                       have aT := zzk (zo (g := ab) (o := .cells #[.int .i64 am,.int .i64 al,.int .i64 ak,.int .i64 aj,.slice bo ah.length bm,.slice bq ag.length bn,.int .i64 ai,.string ae,.bool true] 34 (0,0)) (by (with_reducible repeat (first | refine zj ?_ _ | refine zl ?_ | refine zk ?_ _)); exact aa.out) hb)
                       have aU := zzk (zo (g := ad) (o := .cells #[.int .i64 0,.int .i64 0,.int .i64 0,.int .i64 0,.slice none 0 0,.slice none 0 0,.int .i64 0,.string (⟨#[]⟩ : ByteArray),.bool false] 34 (0,0)) (by (with_reducible repeat (first | refine zj ?_ _ | refine zl ?_ | refine zk ?_ _)); exact aD.out) hb)
                       have bs := zzk (Zs (by repeat (first | (with_reducible first | exact HB.out | apply Zq | apply Zp | apply Zo | refine Zn ?_ ax.out | refine Zn ?_ aF.out | refine Zn ?_ cq.out) | exact HB.out)) hb)
                       clear HO_631004
                       clear HO_631005
                       clear ac
                       clear aa
                       clear aD
                       clear HB
                       have HO_631004 := az
                       have HO_631005 := aA
                       have bX := aB
                       have bY := aC
                       have ac := aE
                       have aa := aT
                       have aD := aU
                       have HB := bs
                       clear az aA aB aC aE aT aU bs
                       (try clear hb)
                       (try clear hb2)
                       (try clear hk)
                       (try clear hi)
                       (try clear ho0)
                       (try clear ho1)
                       refine hK.out _ _ ⟨(zi aa.out 0).trans rfl,(zi aa.out 1).trans rfl,(zi aa.out 2).trans rfl,(zi aa.out 3).trans rfl,(zi aa.out 4).trans rfl,(zi aa.out 5).trans rfl,(zi aa.out 6).trans rfl,(zi aa.out 7).trans rfl,(zi aa.out 8).trans rfl,((HB.out.cell (World.block_lt_of_cell? w _ hw636_0)).trans hw636_0),((HB.out.cell (World.block_lt_of_cell? w _ hw637_0)).trans hw637_0)⟩ (fun hHeld => ?_)
                       clear hK K
                       refine norm_ (a' := ?_) ?_ ?_
                       rotate_left
                       ·
                        show Act.put _ (some 124) _ = _
                        simp only [Act.put,za,zb,zc,Zv,Zw]
                        rfl
                       refine pure_ (i := 10) (N := some 114) (v := ?_) (a' := ?_) #[true,true,true,true,true,true,true,true,true,true,true,false,false,false,true,false,false,false] rfl rfl (Zu HT_.out (by kernel_rfl)) (fun _ _ _ h => h) (Or.inl ⟨by rfl,?_⟩) ?_ ?_
                       rotate_left
                       ·
                        intro w'
                        go_simp
                        with_reducible rfl
                       rotate_left
                       ·
                        simp only [Act.put,za,zb,zc,Zv,Zw]
                        rfl
                       refine pure_ (i := 11) (N := some 125) (v := ?_) (a' := ?_) #[true,true,true,true,true,true,true,true,true,true,true,true,false,false,true,false,false,false] rfl rfl (Zu HT_.out (by kernel_rfl)) (fun _ _ _ h => h) (Or.inl ⟨by rfl,?_⟩) ?_ ?_
                       rotate_left
                       ·
                        intro w'
                        go_simp
                        with_reducible rfl
                       rotate_left
                       ·
                        simp only [Act.put,za,zb,zc,Zv,Zw]
                        rfl
                       refine pure_ (i := 12) (N := some 126) (v := ?_) (a' := ?_) #[true,true,true,true,true,true,true,true,true,true,true,true,true,false,true,false,false,false] rfl rfl (Zu HT_.out (by kernel_rfl)) (fun _ _ _ h => h) (Or.inl ⟨by rfl,?_⟩) ?_ ?_
                       rotate_left
                       ·
                        intro w'
                        go_simp
                        with_reducible rfl
                       rotate_left
                       ·
                        simp only [Act.put,za,zb,zc,Zv,Zw]
                        rfl
                       refine pure_ (i := 13) (N := some 127) (v := ?_) (a' := ?_) z37B53 rfl rfl (Zu HT_.out (by kernel_rfl)) (fun _ _ _ h => h) (Or.inl ⟨by rfl,?_⟩) ?_ ?_
                       rotate_left
                       ·
                        intro w'
                        go_simp
                        with_reducible rfl
                       rotate_left
                       ·
                        simp only [Act.put,za,zb,zc,Zv,Zw]
                        rfl
                       exact norm_ (by simp only [putAll,Act.put,za,zb,zc]) (hCont (dn,dp,ad) _ ⟨hHeld,(by (with_reducible repeat (first | apply zu | apply zt | apply zs)); exact zx bX.out (fun _ hk => ⟨hk.1.1,⟨hk.1.2,hk.2⟩⟩)),(by (with_reducible repeat (first | apply zu | apply zt | apply zs)); exact zx bY.out (fun _ hk => ⟨hk.1.1,⟨hk.1.2,hk.2⟩⟩)),(by (with_reducible repeat (first | apply zu | apply zt | apply zs)); exact zx HO_631004.out (fun _ hk => ⟨hk.1.2,⟨hk.2,hk.1.1⟩⟩)),(by (with_reducible repeat (first | apply zu | apply zt | apply zs)); exact zx HO_631005.out (fun _ hk => ⟨hk.1.2,⟨hk.2,hk.1.1⟩⟩)),(by (with_reducible repeat (first | refine zj ?_ _ | refine zl ?_ | refine zk ?_ _)); exact ac.out),(by (with_reducible repeat (first | refine zj ?_ _ | refine zl ?_ | refine zk ?_ _)); exact aa.out),(by (with_reducible repeat (first | refine zj ?_ _ | refine zl ?_ | refine zk ?_ _)); exact aD.out),aw.out,cq.out,aK.out,aV.out,af.out,aW.out,(by repeat (first | (with_reducible first | exact HB.out | apply Zq | apply Zp | apply Zo | refine Zn ?_ ax.out | refine Zn ?_ aF.out | refine Zn ?_ cq.out) | exact HB.out))⟩)
                     rintro ⟨dn,dp,ad⟩ aS ⟨hS_,iQ,iR,iS,iT,iU,iV,iW,iX,iY,iZ,ip,iq,ir,it⟩
                     have az : Aside0 (Kd.R (Kd.int .i64) 3 aS w.heap.size (fun k_ => some k_ ≠ (dp : Value).ownBlock ∧ some k_ ≠ (.slice bo ah.length bm : Value).ownBlock ∧ some k_ ≠ (.slice bq ag.length bn : Value).ownBlock) dn bx) := ⟨iQ⟩
                     have aA : Aside0 (Kd.R (Kd.int .i64) 3 aS w.heap.size (fun k_ => some k_ ≠ (dn : Value).ownBlock ∧ some k_ ≠ (.slice bo ah.length bm : Value).ownBlock ∧ some k_ ≠ (.slice bq ag.length bn : Value).ownBlock) dp bC) := ⟨iR⟩
                     have aB : Aside0 (Kd.R (Kd.int .i64) 3 aS w.heap.size (fun k_ => some k_ ≠ (dn : Value).ownBlock ∧ some k_ ≠ (dp : Value).ownBlock ∧ some k_ ≠ (.slice bq ag.length bn : Value).ownBlock) (.slice bo ah.length bm) ah) := ⟨iS⟩
                     have aC : Aside0 (Kd.R (Kd.int .i64) 3 aS w.heap.size (fun k_ => some k_ ≠ (dn : Value).ownBlock ∧ some k_ ≠ (dp : Value).ownBlock ∧ some k_ ≠ (.slice bo ah.length bm : Value).ownBlock) (.slice bq ag.length bn) ag) := ⟨iT⟩
                     have aE : Aside0 (aS.heap[ao]? = some (.cells #[.int .i64 au,.int .i64 av,.slice aG aq.length aH,.slice aI ar.length aJ,.string an] 26 (0,0))) := ⟨iU⟩
                     have aT : Aside0 (aS.heap[ab]? = some (.cells #[.int .i64 am,.int .i64 al,.int .i64 ak,.int .i64 aj,.slice bo ah.length bm,.slice bq ag.length bn,.int .i64 ai,.string ae,.bool true] 34 (0,0))) := ⟨iV⟩
                     have aU : Aside0 (aS.heap[ad]? = some (.cells #[.int .i64 0,.int .i64 0,.int .i64 0,.int .i64 0,.slice none 0 0,.slice none 0 0,.int .i64 0,.string (⟨#[]⟩ : ByteArray),.bool false] 34 (0,0))) := ⟨iW⟩
                     have bs : Aside0 (w.heap.size ≤ ad) := ⟨iX⟩
                     have cj : Aside0 (w.heap.size ≤ ad) := ⟨iY⟩
                     have cN : Aside0 (ao ≠ ad) := ⟨iZ⟩
                     have co : Aside0 (ad ≠ ao) := ⟨ip⟩
                     have cp : Aside0 (ab ≠ ad) := ⟨iq⟩
                     have cK : Aside0 (ad ≠ ab) := ⟨ir⟩
                     have cL : Aside0 (Below w.heap.size w aS) := ⟨it⟩
                     clear HO_631004
                     clear HO_631005
                     clear ac
                     clear aa
                     clear HB
                     clear iQ iR iS iT iU iV iW iX iY iZ ip iq ir it
                     have bX := az
                     have bY := aA
                     have HO_631004 := aB
                     have HO_631005 := aC
                     have ac := aE
                     have aa := aT
                     have aD := aU
                     have aw := bs
                     have cq := cj
                     have aK := cN
                     have aV := co
                     have af := cp
                     have aW := cK
                     have HB := cL
                     clear az aA aB aC aE aT aU bs cj cN co cp cK cL
                     have hHeld : aS.cell? ⟨ab,0,none⟩ = some (.int .i64 am) ∧ aS.cell? ⟨ab,1,none⟩ = some (.int .i64 al) ∧ aS.cell? ⟨ab,2,none⟩ = some (.int .i64 ak) ∧ aS.cell? ⟨ab,3,none⟩ = some (.int .i64 aj) ∧ aS.cell? ⟨ab,4,none⟩ = some (.slice bo ah.length bm) ∧ aS.cell? ⟨ab,5,none⟩ = some (.slice bq ag.length bn) ∧ aS.cell? ⟨ab,6,none⟩ = some (.int .i64 ai) ∧ aS.cell? ⟨ab,7,none⟩ = some (.string ae) ∧ aS.cell? ⟨ab,8,none⟩ = some (.bool true) ∧ aS.cell? (ad636.add (ap).toNat) = some (.int .i64 (rd l3 ap)) ∧ aS.cell? (ad637.add (ap).toNat) = some (.string (rdOf ByteArray.empty l4 ap)) := hS_
                     obtain ⟨ca,bU,eo78⟩ := zz bX.out
                     (first | subst eo78 | (injection eo78 with f1_ f2_ f3_; have f4_ := f1_.symm; have f5_ := f3_.symm; clear f1_ f2_ f3_; subst f4_; subst f5_))
                     obtain ⟨cg,cb,eo80⟩ := zz bY.out
                     (first | subst eo80 | (injection eo80 with f1_ f2_ f3_; have f4_ := f1_.symm; have f5_ := f3_.symm; clear f1_ f2_ f3_; subst f4_; subst f5_))
                     refine norm_ (a' := ?_) ?_ ?_
                     rotate_left
                     ·
                      simp only [putAll,Act.put,za,zb,zc]
                      rfl
                     refine one_ (i := 15) (N := none) #[true,true,true,true,true,true,true,true,true,true,true,true,true,true,true,true,false,false] rfl rfl (one_of HT_.out (by kernel_rfl)) (by decide) (fun K hK => ?_)
                     have hs74 : aS.cell? ⟨ad,0,none⟩ = some (.int .i64 0) := (zi aD.out 0).trans rfl
                     have hfs74 := zm aD.out 0
                     have hns74_0 := aK.out
                     have hns74_1 := af.out
                     have hms74_0 := aV.out
                     have hms74_1 := aW.out
                     have hs75 : aS.cell? ⟨ad,1,none⟩ = some (.int .i64 0) := (zi aD.out 1).trans rfl
                     have hfs75 := zm aD.out 1
                     have hns75_0 := aK.out
                     have hns75_1 := af.out
                     have hms75_0 := aV.out
                     have hms75_1 := aW.out
                     have hs76 : aS.cell? ⟨ad,2,none⟩ = some (.int .i64 0) := (zi aD.out 2).trans rfl
                     have hfs76 := zm aD.out 2
                     have hns76_0 := aK.out
                     have hns76_1 := af.out
                     have hms76_0 := aV.out
                     have hms76_1 := aW.out
                     have hs77 : aS.cell? ⟨ad,3,none⟩ = some (.int .i64 0) := (zi aD.out 3).trans rfl
                     have hfs77 := zm aD.out 3
                     have hns77_0 := aK.out
                     have hns77_1 := af.out
                     have hms77_0 := aV.out
                     have hms77_1 := aW.out
                     have hs79 : aS.cell? ⟨ad,4,none⟩ = some (.slice none 0 0) := (zi aD.out 4).trans rfl
                     have hfs79 := zm aD.out 4
                     have hns79_0 := aK.out
                     have hns79_1 := af.out
                     have hms79_0 := aV.out
                     have hms79_1 := aW.out
                     have hs81 : aS.cell? ⟨ad,5,none⟩ = some (.slice none 0 0) := (zi aD.out 5).trans rfl
                     have hfs81 := zm aD.out 5
                     have hns81_0 := aK.out
                     have hns81_1 := af.out
                     have hms81_0 := aV.out
                     have hms81_1 := aW.out
                     have hs82 : aS.cell? ⟨ad,6,none⟩ = some (.int .i64 0) := (zi aD.out 6).trans rfl
                     have hfs82 := zm aD.out 6
                     have hns82_0 := aK.out
                     have hns82_1 := af.out
                     have hms82_0 := aV.out
                     have hms82_1 := aW.out
                     have hs83 : aS.cell? ⟨ad,7,none⟩ = some (.string (⟨#[]⟩ : ByteArray)) := (zi aD.out 7).trans rfl
                     have hfs83 := zm aD.out 7
                     have hns83_0 := aK.out
                     have hns83_1 := af.out
                     have hms83_0 := aV.out
                     have hms83_1 := aW.out
                     have hs84 : aS.cell? ⟨ad,8,none⟩ = some (.bool false) := (zi aD.out 8).trans rfl
                     have hfs84 := zm aD.out 8
                     have hns84_0 := aK.out
                     have hns84_1 := af.out
                     have hms84_0 := aV.out
                     have hms84_1 := aW.out
                     refine skip_ (w1 := ?_) (by rfl) rfl ?_ ?_
                     rotate_left
                     ·
                      go_simp
                      rfl
                     refine hK.out _ _ ⟨((Zx (p := ⟨ad,_,none⟩) af.out _).trans (((Zx (p := ⟨ad,_,none⟩) af.out _).trans (((Zx (p := ⟨ad,_,none⟩) af.out _).trans (((Zx (p := ⟨ad,_,none⟩) af.out _).trans (((Zx (p := ⟨ad,_,none⟩) af.out _).trans (((Zx (p := ⟨ad,_,none⟩) af.out _).trans (((Zx (p := ⟨ad,_,none⟩) af.out _).trans (((Zx (p := ⟨ad,_,none⟩) af.out _).trans (((Zx (p := ⟨ad,_,none⟩) af.out _).trans (hHeld.1)))))))))))))))))),((Zx (p := ⟨ad,_,none⟩) af.out _).trans (((Zx (p := ⟨ad,_,none⟩) af.out _).trans (((Zx (p := ⟨ad,_,none⟩) af.out _).trans (((Zx (p := ⟨ad,_,none⟩) af.out _).trans (((Zx (p := ⟨ad,_,none⟩) af.out _).trans (((Zx (p := ⟨ad,_,none⟩) af.out _).trans (((Zx (p := ⟨ad,_,none⟩) af.out _).trans (((Zx (p := ⟨ad,_,none⟩) af.out _).trans (((Zx (p := ⟨ad,_,none⟩) af.out _).trans (hHeld.2.1)))))))))))))))))),((Zx (p := ⟨ad,_,none⟩) af.out _).trans (((Zx (p := ⟨ad,_,none⟩) af.out _).trans (((Zx (p := ⟨ad,_,none⟩) af.out _).trans (((Zx (p := ⟨ad,_,none⟩) af.out _).trans (((Zx (p := ⟨ad,_,none⟩) af.out _).trans (((Zx (p := ⟨ad,_,none⟩) af.out _).trans (((Zx (p := ⟨ad,_,none⟩) af.out _).trans (((Zx (p := ⟨ad,_,none⟩) af.out _).trans (((Zx (p := ⟨ad,_,none⟩) af.out _).trans (hHeld.2.2.1)))))))))))))))))),((Zx (p := ⟨ad,_,none⟩) af.out _).trans (((Zx (p := ⟨ad,_,none⟩) af.out _).trans (((Zx (p := ⟨ad,_,none⟩) af.out _).trans (((Zx (p := ⟨ad,_,none⟩) af.out _).trans (((Zx (p := ⟨ad,_,none⟩) af.out _).trans (((Zx (p := ⟨ad,_,none⟩) af.out _).trans (((Zx (p := ⟨ad,_,none⟩) af.out _).trans (((Zx (p := ⟨ad,_,none⟩) af.out _).trans (((Zx (p := ⟨ad,_,none⟩) af.out _).trans (hHeld.2.2.2.1)))))))))))))))))),((Zx (p := ⟨ad,_,none⟩) af.out _).trans (((Zx (p := ⟨ad,_,none⟩) af.out _).trans (((Zx (p := ⟨ad,_,none⟩) af.out _).trans (((Zx (p := ⟨ad,_,none⟩) af.out _).trans (((Zx (p := ⟨ad,_,none⟩) af.out _).trans (((Zx (p := ⟨ad,_,none⟩) af.out _).trans (((Zx (p := ⟨ad,_,none⟩) af.out _).trans (((Zx (p := ⟨ad,_,none⟩) af.out _).trans (((Zx (p := ⟨ad,_,none⟩) af.out _).trans (hHeld.2.2.2.2.1)))))))))))))))))),((Zx (p := ⟨ad,_,none⟩) af.out _).trans (((Zx (p := ⟨ad,_,none⟩) af.out _).trans (((Zx (p := ⟨ad,_,none⟩) af.out _).trans (((Zx (p := ⟨ad,_,none⟩) af.out _).trans (((Zx (p := ⟨ad,_,none⟩) af.out _).trans (((Zx (p := ⟨ad,_,none⟩) af.out _).trans (((Zx (p := ⟨ad,_,none⟩) af.out _).trans (((Zx (p := ⟨ad,_,none⟩) af.out _).trans (((Zx (p := ⟨ad,_,none⟩) af.out _).trans (hHeld.2.2.2.2.2.1)))))))))))))))))),((Zx (p := ⟨ad,_,none⟩) af.out _).trans (((Zx (p := ⟨ad,_,none⟩) af.out _).trans (((Zx (p := ⟨ad,_,none⟩) af.out _).trans (((Zx (p := ⟨ad,_,none⟩) af.out _).trans (((Zx (p := ⟨ad,_,none⟩) af.out _).trans (((Zx (p := ⟨ad,_,none⟩) af.out _).trans (((Zx (p := ⟨ad,_,none⟩) af.out _).trans (((Zx (p := ⟨ad,_,none⟩) af.out _).trans (((Zx (p := ⟨ad,_,none⟩) af.out _).trans (hHeld.2.2.2.2.2.2.1)))))))))))))))))),((Zx (p := ⟨ad,_,none⟩) af.out _).trans (((Zx (p := ⟨ad,_,none⟩) af.out _).trans (((Zx (p := ⟨ad,_,none⟩) af.out _).trans (((Zx (p := ⟨ad,_,none⟩) af.out _).trans (((Zx (p := ⟨ad,_,none⟩) af.out _).trans (((Zx (p := ⟨ad,_,none⟩) af.out _).trans (((Zx (p := ⟨ad,_,none⟩) af.out _).trans (((Zx (p := ⟨ad,_,none⟩) af.out _).trans (((Zx (p := ⟨ad,_,none⟩) af.out _).trans (hHeld.2.2.2.2.2.2.2.1)))))))))))))))))),((Zx (p := ⟨ad,_,none⟩) af.out _).trans (((Zx (p := ⟨ad,_,none⟩) af.out _).trans (((Zx (p := ⟨ad,_,none⟩) af.out _).trans (((Zx (p := ⟨ad,_,none⟩) af.out _).trans (((Zx (p := ⟨ad,_,none⟩) af.out _).trans (((Zx (p := ⟨ad,_,none⟩) af.out _).trans (((Zx (p := ⟨ad,_,none⟩) af.out _).trans (((Zx (p := ⟨ad,_,none⟩) af.out _).trans (((Zx (p := ⟨ad,_,none⟩) af.out _).trans (hHeld.2.2.2.2.2.2.2.2.1)))))))))))))))))),((Zx (p := ⟨ad,_,none⟩) (by first | exact Nat.ne_of_lt (Nat.lt_of_lt_of_le (by have := World.block_lt_of_cell? _ _ hw636_0; first | rwa [Zt] at this | exact this) aw.out) | (rw [Zt]; exact Nat.ne_of_lt (Nat.lt_of_lt_of_le (by have := World.block_lt_of_cell? _ _ hw636_0; first | rwa [Zt] at this | exact this) aw.out)) | (show (Addr.add _ _).block ≠ _; rw [Zt]; exact Nat.ne_of_lt (Nat.lt_of_lt_of_le (by have := World.block_lt_of_cell? _ _ hw636_0; first | rwa [Zt] at this | exact this) aw.out)) | (dsimp only; exact Nat.ne_of_lt (Nat.lt_of_lt_of_le (by have := World.block_lt_of_cell? _ _ hw636_0; first | rwa [Zt] at this | exact this) aw.out))) _).trans (((Zx (p := ⟨ad,_,none⟩) (by first | exact Nat.ne_of_lt (Nat.lt_of_lt_of_le (by have := World.block_lt_of_cell? _ _ hw636_0; first | rwa [Zt] at this | exact this) aw.out) | (rw [Zt]; exact Nat.ne_of_lt (Nat.lt_of_lt_of_le (by have := World.block_lt_of_cell? _ _ hw636_0; first | rwa [Zt] at this | exact this) aw.out)) | (show (Addr.add _ _).block ≠ _; rw [Zt]; exact Nat.ne_of_lt (Nat.lt_of_lt_of_le (by have := World.block_lt_of_cell? _ _ hw636_0; first | rwa [Zt] at this | exact this) aw.out)) | (dsimp only; exact Nat.ne_of_lt (Nat.lt_of_lt_of_le (by have := World.block_lt_of_cell? _ _ hw636_0; first | rwa [Zt] at this | exact this) aw.out))) _).trans (((Zx (p := ⟨ad,_,none⟩) (by first | exact Nat.ne_of_lt (Nat.lt_of_lt_of_le (by have := World.block_lt_of_cell? _ _ hw636_0; first | rwa [Zt] at this | exact this) aw.out) | (rw [Zt]; exact Nat.ne_of_lt (Nat.lt_of_lt_of_le (by have := World.block_lt_of_cell? _ _ hw636_0; first | rwa [Zt] at this | exact this) aw.out)) | (show (Addr.add _ _).block ≠ _; rw [Zt]; exact Nat.ne_of_lt (Nat.lt_of_lt_of_le (by have := World.block_lt_of_cell? _ _ hw636_0; first | rwa [Zt] at this | exact this) aw.out)) | (dsimp only; exact Nat.ne_of_lt (Nat.lt_of_lt_of_le (by have := World.block_lt_of_cell? _ _ hw636_0; first | rwa [Zt] at this | exact this) aw.out))) _).trans (((Zx (p := ⟨ad,_,none⟩) (by first | exact Nat.ne_of_lt (Nat.lt_of_lt_of_le (by have := World.block_lt_of_cell? _ _ hw636_0; first | rwa [Zt] at this | exact this) aw.out) | (rw [Zt]; exact Nat.ne_of_lt (Nat.lt_of_lt_of_le (by have := World.block_lt_of_cell? _ _ hw636_0; first | rwa [Zt] at this | exact this) aw.out)) | (show (Addr.add _ _).block ≠ _; rw [Zt]; exact Nat.ne_of_lt (Nat.lt_of_lt_of_le (by have := World.block_lt_of_cell? _ _ hw636_0; first | rwa [Zt] at this | exact this) aw.out)) | (dsimp only; exact Nat.ne_of_lt (Nat.lt_of_lt_of_le (by have := World.block_lt_of_cell? _ _ hw636_0; first | rwa [Zt] at this | exact this) aw.out))) _).trans (((Zx (p := ⟨ad,_,none⟩) (by first | exact Nat.ne_of_lt (Nat.lt_of_lt_of_le (by have := World.block_lt_of_cell? _ _ hw636_0; first | rwa [Zt] at this | exact this) aw.out) | (rw [Zt]; exact Nat.ne_of_lt (Nat.lt_of_lt_of_le (by have := World.block_lt_of_cell? _ _ hw636_0; first | rwa [Zt] at this | exact this) aw.out)) | (show (Addr.add _ _).block ≠ _; rw [Zt]; exact Nat.ne_of_lt (Nat.lt_of_lt_of_le (by have := World.block_lt_of_cell? _ _ hw636_0; first | rwa [Zt] at this | exact this) aw.out)) | (dsimp only; exact Nat.ne_of_lt (Nat.lt_of_lt_of_le (by have := World.block_lt_of_cell? _ _ hw636_0; first | rwa [Zt] at this | exact this) aw.out))) _).trans (((Zx (p := ⟨ad,_,none⟩) (by first | exact Nat.ne_of_lt (Nat.lt_of_lt_of_le (by have := World.block_lt_of_cell? _ _ hw636_0; first | rwa [Zt] at this | exact this) aw.out) | (rw [Zt]; exact Nat.ne_of_lt (Nat.lt_of_lt_of_le (by have := World.block_lt_of_cell? _ _ hw636_0; first | rwa [Zt] at this | exact this) aw.out)) | (show (Addr.add _ _).block ≠ _; rw [Zt]; exact Nat.ne_of_lt (Nat.lt_of_lt_of_le (by have := World.block_lt_of_cell? _ _ hw636_0; first | rwa [Zt] at this | exact this) aw.out)) | (dsimp only; exact Nat.ne_of_lt (Nat.lt_of_lt_of_le (by have := World.block_lt_of_cell? _ _ hw636_0; first | rwa [Zt] at this | exact this) aw.out))) _).trans (((Zx (p := ⟨ad,_,none⟩) (by first | exact Nat.ne_of_lt (Nat.lt_of_lt_of_le (by have := World.block_lt_of_cell? _ _ hw636_0; first | rwa [Zt] at this | exact this) aw.out) | (rw [Zt]; exact Nat.ne_of_lt (Nat.lt_of_lt_of_le (by have := World.block_lt_of_cell? _ _ hw636_0; first | rwa [Zt] at this | exact this) aw.out)) | (show (Addr.add _ _).block ≠ _; rw [Zt]; exact Nat.ne_of_lt (Nat.lt_of_lt_of_le (by have := World.block_lt_of_cell? _ _ hw636_0; first | rwa [Zt] at this | exact this) aw.out)) | (dsimp only; exact Nat.ne_of_lt (Nat.lt_of_lt_of_le (by have := World.block_lt_of_cell? _ _ hw636_0; first | rwa [Zt] at this | exact this) aw.out))) _).trans (((Zx (p := ⟨ad,_,none⟩) (by first | exact Nat.ne_of_lt (Nat.lt_of_lt_of_le (by have := World.block_lt_of_cell? _ _ hw636_0; first | rwa [Zt] at this | exact this) aw.out) | (rw [Zt]; exact Nat.ne_of_lt (Nat.lt_of_lt_of_le (by have := World.block_lt_of_cell? _ _ hw636_0; first | rwa [Zt] at this | exact this) aw.out)) | (show (Addr.add _ _).block ≠ _; rw [Zt]; exact Nat.ne_of_lt (Nat.lt_of_lt_of_le (by have := World.block_lt_of_cell? _ _ hw636_0; first | rwa [Zt] at this | exact this) aw.out)) | (dsimp only; exact Nat.ne_of_lt (Nat.lt_of_lt_of_le (by have := World.block_lt_of_cell? _ _ hw636_0; first | rwa [Zt] at this | exact this) aw.out))) _).trans (((Zx (p := ⟨ad,_,none⟩) (by first | exact Nat.ne_of_lt (Nat.lt_of_lt_of_le (by have := World.block_lt_of_cell? _ _ hw636_0; first | rwa [Zt] at this | exact this) aw.out) | (rw [Zt]; exact Nat.ne_of_lt (Nat.lt_of_lt_of_le (by have := World.block_lt_of_cell? _ _ hw636_0; first | rwa [Zt] at this | exact this) aw.out)) | (show (Addr.add _ _).block ≠ _; rw [Zt]; exact Nat.ne_of_lt (Nat.lt_of_lt_of_le (by have := World.block_lt_of_cell? _ _ hw636_0; first | rwa [Zt] at this | exact this) aw.out)) | (dsimp only; exact Nat.ne_of_lt (Nat.lt_of_lt_of_le (by have := World.block_lt_of_cell? _ _ hw636_0; first | rwa [Zt] at this | exact this) aw.out))) _).trans (hHeld.2.2.2.2.2.2.2.2.2.1)))))))))))))))))),((Zx (p := ⟨ad,_,none⟩) (by first | exact Nat.ne_of_lt (Nat.lt_of_lt_of_le (by have := World.block_lt_of_cell? _ _ hw637_0; first | rwa [Zt] at this | exact this) aw.out) | (rw [Zt]; exact Nat.ne_of_lt (Nat.lt_of_lt_of_le (by have := World.block_lt_of_cell? _ _ hw637_0; first | rwa [Zt] at this | exact this) aw.out)) | (show (Addr.add _ _).block ≠ _; rw [Zt]; exact Nat.ne_of_lt (Nat.lt_of_lt_of_le (by have := World.block_lt_of_cell? _ _ hw637_0; first | rwa [Zt] at this | exact this) aw.out)) | (dsimp only; exact Nat.ne_of_lt (Nat.lt_of_lt_of_le (by have := World.block_lt_of_cell? _ _ hw637_0; first | rwa [Zt] at this | exact this) aw.out))) _).trans (((Zx (p := ⟨ad,_,none⟩) (by first | exact Nat.ne_of_lt (Nat.lt_of_lt_of_le (by have := World.block_lt_of_cell? _ _ hw637_0; first | rwa [Zt] at this | exact this) aw.out) | (rw [Zt]; exact Nat.ne_of_lt (Nat.lt_of_lt_of_le (by have := World.block_lt_of_cell? _ _ hw637_0; first | rwa [Zt] at this | exact this) aw.out)) | (show (Addr.add _ _).block ≠ _; rw [Zt]; exact Nat.ne_of_lt (Nat.lt_of_lt_of_le (by have := World.block_lt_of_cell? _ _ hw637_0; first | rwa [Zt] at this | exact this) aw.out)) | (dsimp only; exact Nat.ne_of_lt (Nat.lt_of_lt_of_le (by have := World.block_lt_of_cell? _ _ hw637_0; first | rwa [Zt] at this | exact this) aw.out))) _).trans (((Zx (p := ⟨ad,_,none⟩) (by first | exact Nat.ne_of_lt (Nat.lt_of_lt_of_le (by have := World.block_lt_of_cell? _ _ hw637_0; first | rwa [Zt] at this | exact this) aw.out) | (rw [Zt]; exact Nat.ne_of_lt (Nat.lt_of_lt_of_le (by have := World.block_lt_of_cell? _ _ hw637_0; first | rwa [Zt] at this | exact this) aw.out)) | (show (Addr.add _ _).block ≠ _; rw [Zt]; exact Nat.ne_of_lt (Nat.lt_of_lt_of_le (by have := World.block_lt_of_cell? _ _ hw637_0; first | rwa [Zt] at this | exact this) aw.out)) | (dsimp only; exact Nat.ne_of_lt (Nat.lt_of_lt_of_le (by have := World.block_lt_of_cell? _ _ hw637_0; first | rwa [Zt] at this | exact this) aw.out))) _).trans (((Zx (p := ⟨ad,_,none⟩) (by first | exact Nat.ne_of_lt (Nat.lt_of_lt_of_le (by have := World.block_lt_of_cell? _ _ hw637_0; first | rwa [Zt] at this | exact this) aw.out) | (rw [Zt]; exact Nat.ne_of_lt (Nat.lt_of_lt_of_le (by have := World.block_lt_of_cell? _ _ hw637_0; first | rwa [Zt] at this | exact this) aw.out)) | (show (Addr.add _ _).block ≠ _; rw [Zt]; exact Nat.ne_of_lt (Nat.lt_of_lt_of_le (by have := World.block_lt_of_cell? _ _ hw637_0; first | rwa [Zt] at this | exact this) aw.out)) | (dsimp only; exact Nat.ne_of_lt (Nat.lt_of_lt_of_le (by have := World.block_lt_of_cell? _ _ hw637_0; first | rwa [Zt] at this | exact this) aw.out))) _).trans (((Zx (p := ⟨ad,_,none⟩) (by first | exact Nat.ne_of_lt (Nat.lt_of_lt_of_le (by have := World.block_lt_of_cell? _ _ hw637_0; first | rwa [Zt] at this | exact this) aw.out) | (rw [Zt]; exact Nat.ne_of_lt (Nat.lt_of_lt_of_le (by have := World.block_lt_of_cell? _ _ hw637_0; first | rwa [Zt] at this | exact this) aw.out)) | (show (Addr.add _ _).block ≠ _; rw [Zt]; exact Nat.ne_of_lt (Nat.lt_of_lt_of_le (by have := World.block_lt_of_cell? _ _ hw637_0; first | rwa [Zt] at this | exact this) aw.out)) | (dsimp only; exact Nat.ne_of_lt (Nat.lt_of_lt_of_le (by have := World.block_lt_of_cell? _ _ hw637_0; first | rwa [Zt] at this | exact this) aw.out))) _).trans (((Zx (p := ⟨ad,_,none⟩) (by first | exact Nat.ne_of_lt (Nat.lt_of_lt_of_le (by have := World.block_lt_of_cell? _ _ hw637_0; first | rwa [Zt] at this | exact this) aw.out) | (rw [Zt]; exact Nat.ne_of_lt (Nat.lt_of_lt_of_le (by have := World.block_lt_of_cell? _ _ hw637_0; first | rwa [Zt] at this | exact this) aw.out)) | (show (Addr.add _ _).block ≠ _; rw [Zt]; exact Nat.ne_of_lt (Nat.lt_of_lt_of_le (by have := World.block_lt_of_cell? _ _ hw637_0; first | rwa [Zt] at this | exact this) aw.out)) | (dsimp only; exact Nat.ne_of_lt (Nat.lt_of_lt_of_le (by have := World.block_lt_of_cell? _ _ hw637_0; first | rwa [Zt] at this | exact this) aw.out))) _).trans (((Zx (p := ⟨ad,_,none⟩) (by first | exact Nat.ne_of_lt (Nat.lt_of_lt_of_le (by have := World.block_lt_of_cell? _ _ hw637_0; first | rwa [Zt] at this | exact this) aw.out) | (rw [Zt]; exact Nat.ne_of_lt (Nat.lt_of_lt_of_le (by have := World.block_lt_of_cell? _ _ hw637_0; first | rwa [Zt] at this | exact this) aw.out)) | (show (Addr.add _ _).block ≠ _; rw [Zt]; exact Nat.ne_of_lt (Nat.lt_of_lt_of_le (by have := World.block_lt_of_cell? _ _ hw637_0; first | rwa [Zt] at this | exact this) aw.out)) | (dsimp only; exact Nat.ne_of_lt (Nat.lt_of_lt_of_le (by have := World.block_lt_of_cell? _ _ hw637_0; first | rwa [Zt] at this | exact this) aw.out))) _).trans (((Zx (p := ⟨ad,_,none⟩) (by first | exact Nat.ne_of_lt (Nat.lt_of_lt_of_le (by have := World.block_lt_of_cell? _ _ hw637_0; first | rwa [Zt] at this | exact this) aw.out) | (rw [Zt]; exact Nat.ne_of_lt (Nat.lt_of_lt_of_le (by have := World.block_lt_of_cell? _ _ hw637_0; first | rwa [Zt] at this | exact this) aw.out)) | (show (Addr.add _ _).block ≠ _; rw [Zt]; exact Nat.ne_of_lt (Nat.lt_of_lt_of_le (by have := World.block_lt_of_cell? _ _ hw637_0; first | rwa [Zt] at this | exact this) aw.out)) | (dsimp only; exact Nat.ne_of_lt (Nat.lt_of_lt_of_le (by have := World.block_lt_of_cell? _ _ hw637_0; first | rwa [Zt] at this | exact this) aw.out))) _).trans (((Zx (p := ⟨ad,_,none⟩) (by first | exact Nat.ne_of_lt (Nat.lt_of_lt_of_le (by have := World.block_lt_of_cell? _ _ hw637_0; first | rwa [Zt] at this | exact this) aw.out) | (rw [Zt]; exact Nat.ne_of_lt (Nat.lt_of_lt_of_le (by have := World.block_lt_of_cell? _ _ hw637_0; first | rwa [Zt] at this | exact this) aw.out)) | (show (Addr.add _ _).block ≠ _; rw [Zt]; exact Nat.ne_of_lt (Nat.lt_of_lt_of_le (by have := World.block_lt_of_cell? _ _ hw637_0; first | rwa [Zt] at this | exact this) aw.out)) | (dsimp only; exact Nat.ne_of_lt (Nat.lt_of_lt_of_le (by have := World.block_lt_of_cell? _ _ hw637_0; first | rwa [Zt] at this | exact this) aw.out))) _).trans (hHeld.2.2.2.2.2.2.2.2.2.2))))))))))))))))))⟩ (fun hHeld => ?_)
                     clear hK K
                     refine pure_ (i := 16) (N := some 15) (v := ?_) (a' := ?_) #[true,true,true,true,true,true,true,true,true,true,true,true,true,true,true,true,true,false] rfl rfl (Zu HT_.out (by kernel_rfl)) (fun _ _ _ h => h) (Or.inl ⟨by rfl,?_⟩) ?_ ?_
                     rotate_left
                     ·
                      intro w'
                      go_simp
                      with_reducible rfl
                     rotate_left
                     ·
                      simp only [Act.put,za,zb,zc,Zv,Zw]
                      rfl
                     refine pure_ (i := 17) (N := some 16) (v := ?_) (a' := ?_) #[true,true,true,true,true,true,true,true,true,true,true,true,true,true,true,true,true,true] rfl rfl (Zu HT_.out (by kernel_rfl)) (fun _ _ _ h => h) (Or.inl ⟨by rfl,?_⟩) ?_ ?_
                     rotate_left
                     ·
                      intro w'
                      go_simp
                      with_reducible rfl
                     rotate_left
                     ·
                      simp only [Act.put,za,zb,zc,Zv,Zw]
                      rfl
                     refine done_ (done_of HT_.out (by kernel_rfl)) ?_
                     have nv := bS.out
                     have nw := ay.out
                     have nx := af.out
                     have ny := aW.out
                     have gG : aS.cell? ⟨ab,0,none⟩ = some (.int .i64 am) := (zi aa.out 0).trans rfl
                     have gH : aS.cell? ⟨ab,1,none⟩ = some (.int .i64 al) := (zi aa.out 1).trans rfl
                     have gI : aS.cell? ⟨ab,2,none⟩ = some (.int .i64 ak) := (zi aa.out 2).trans rfl
                     have gJ : aS.cell? ⟨ab,3,none⟩ = some (.int .i64 aj) := (zi aa.out 3).trans rfl
                     have gK : aS.cell? ⟨ab,4,none⟩ = some (.slice bo ah.length bm) := (zi aa.out 4).trans rfl
                     have gL : aS.cell? ⟨ab,5,none⟩ = some (.slice bq ag.length bn) := (zi aa.out 5).trans rfl
                     have gM : aS.cell? ⟨ab,6,none⟩ = some (.int .i64 ai) := (zi aa.out 6).trans rfl
                     have gN : aS.cell? ⟨ab,7,none⟩ = some (.string ae) := (zi aa.out 7).trans rfl
                     have gO : aS.cell? ⟨ab,8,none⟩ = some (.bool true) := (zi aa.out 8).trans rfl
                     have gP := zm aa.out 0
                     have gQ := zm aa.out 1
                     have gR := zm aa.out 2
                     have gS := zm aa.out 3
                     have gT := zm aa.out 4
                     have gU := zm aa.out 5
                     have gV := zm aa.out 6
                     have gW := zm aa.out 7
                     have gX := zm aa.out 8
                     have nz := aV.out
                     have nA := aK.out
                     have gY : aS.cell? ⟨ad,0,none⟩ = some (.int .i64 0) := (zi aD.out 0).trans rfl
                     have gZ : aS.cell? ⟨ad,1,none⟩ = some (.int .i64 0) := (zi aD.out 1).trans rfl
                     have ha : aS.cell? ⟨ad,2,none⟩ = some (.int .i64 0) := (zi aD.out 2).trans rfl
                     have hc : aS.cell? ⟨ad,3,none⟩ = some (.int .i64 0) := (zi aD.out 3).trans rfl
                     have hf : aS.cell? ⟨ad,4,none⟩ = some (.slice none 0 0) := (zi aD.out 4).trans rfl
                     have hh : aS.cell? ⟨ad,5,none⟩ = some (.slice none 0 0) := (zi aD.out 5).trans rfl
                     have hj : aS.cell? ⟨ad,6,none⟩ = some (.int .i64 0) := (zi aD.out 6).trans rfl
                     have hl : aS.cell? ⟨ad,7,none⟩ = some (.string (⟨#[]⟩ : ByteArray)) := (zi aD.out 7).trans rfl
                     have hm : aS.cell? ⟨ad,8,none⟩ = some (.bool false) := (zi aD.out 8).trans rfl
                     have hn := zm aD.out 0
                     have hq := zm aD.out 1
                     have ht := zm aD.out 2
                     have hu := zm aD.out 3
                     have hv := zm aD.out 4
                     have hw := zm aD.out 5
                     have hx := zm aD.out 6
                     have hy := zm aD.out 7
                     have hz := zm aD.out 8
                     try go_wp2_with (first | (go_at_call 16; (with_reducible refine (r16_Same.calls cn am al ak aj _ _ ah _ _ ag ai ae true bu bw bB bE _ _ bx _ _ bC bJ bN bT true _ ?side1 ?side2 ?side3 ?side4 ?side5 ?side6 ?side7 ?side8 mU.out).mono ?_); (case side1 => refine (zw (e := 3) (base := w.heap.size) (ok := fun k_ => (some k_ ≠ (.slice ca bx.length bU : Value).ownBlock ∧ (some k_ ≠ (.slice cg bC.length cb : Value).ownBlock ∧ some k_ ≠ (.slice bq ag.length bn : Value).ownBlock))) (n := ah.length) (c := bm) ?_).2.2; exact (by (with_reducible repeat (first | apply zu | apply zt | apply zs)); exact (zx (zr (p := ⟨ad,8,none⟩) (zr (p := ⟨ad,7,none⟩) (zr (p := ⟨ad,6,none⟩) (zr (p := ⟨ad,5,none⟩) (zr (p := ⟨ad,4,none⟩) (zr (p := ⟨ad,3,none⟩) (zr (p := ⟨ad,2,none⟩) (zr (p := ⟨ad,1,none⟩) (zr (p := ⟨ad,0,none⟩) (zy HO_631004.out aD.out (by decide)) (fun _ hk => hk.2) (.int .i64 bu)) (fun _ hk => hk.2) (.int .i64 bw)) (fun _ hk => hk.2) (.int .i64 bB)) (fun _ hk => hk.2) (.int .i64 bE)) (fun _ hk => hk.2) (.slice ca bx.length bU)) (fun _ hk => hk.2) (.slice cg bC.length cb)) (fun _ hk => hk.2) (.int .i64 bJ)) (fun _ hk => hk.2) (.string bN)) (fun _ hk => hk.2) (.bool bT)) (fun _ h_ => h_.1)))); (case side2 => exact (zw HO_631004.out).2.1); (case side3 => refine (zw (e := 3) (base := w.heap.size) (ok := fun k_ => (some k_ ≠ (.slice ca bx.length bU : Value).ownBlock ∧ (some k_ ≠ (.slice cg bC.length cb : Value).ownBlock ∧ some k_ ≠ (.slice bo ah.length bm : Value).ownBlock))) (n := ag.length) (c := bn) ?_).2.2; exact (by (with_reducible repeat (first | apply zu | apply zt | apply zs)); exact (zx (zr (p := ⟨ad,8,none⟩) (zr (p := ⟨ad,7,none⟩) (zr (p := ⟨ad,6,none⟩) (zr (p := ⟨ad,5,none⟩) (zr (p := ⟨ad,4,none⟩) (zr (p := ⟨ad,3,none⟩) (zr (p := ⟨ad,2,none⟩) (zr (p := ⟨ad,1,none⟩) (zr (p := ⟨ad,0,none⟩) (zy HO_631005.out aD.out (by decide)) (fun _ hk => hk.2) (.int .i64 bu)) (fun _ hk => hk.2) (.int .i64 bw)) (fun _ hk => hk.2) (.int .i64 bB)) (fun _ hk => hk.2) (.int .i64 bE)) (fun _ hk => hk.2) (.slice ca bx.length bU)) (fun _ hk => hk.2) (.slice cg bC.length cb)) (fun _ hk => hk.2) (.int .i64 bJ)) (fun _ hk => hk.2) (.string bN)) (fun _ hk => hk.2) (.bool bT)) (fun _ h_ => h_.1)))); (case side4 => exact (zw HO_631005.out).2.1); (case side5 => refine (zw (e := 3) (base := w.heap.size) (ok := fun k_ => (some k_ ≠ (.slice cg bC.length cb : Value).ownBlock ∧ (some k_ ≠ (.slice bo ah.length bm : Value).ownBlock ∧ some k_ ≠ (.slice bq ag.length bn : Value).ownBlock))) (n := bx.length) (c := bU) ?_).2.2; exact (by (with_reducible repeat (first | apply zu | apply zt | apply zs)); exact (zx (zr (p := ⟨ad,8,none⟩) (zr (p := ⟨ad,7,none⟩) (zr (p := ⟨ad,6,none⟩) (zr (p := ⟨ad,5,none⟩) (zr (p := ⟨ad,4,none⟩) (zr (p := ⟨ad,3,none⟩) (zr (p := ⟨ad,2,none⟩) (zr (p := ⟨ad,1,none⟩) (zr (p := ⟨ad,0,none⟩) (zy bX.out aD.out (by decide)) (fun _ hk => hk.2) (.int .i64 bu)) (fun _ hk => hk.2) (.int .i64 bw)) (fun _ hk => hk.2) (.int .i64 bB)) (fun _ hk => hk.2) (.int .i64 bE)) (fun _ hk => hk.2) (.slice ca bx.length bU)) (fun _ hk => hk.2) (.slice cg bC.length cb)) (fun _ hk => hk.2) (.int .i64 bJ)) (fun _ hk => hk.2) (.string bN)) (fun _ hk => hk.2) (.bool bT)) (fun _ h_ => h_.1)))); (case side6 => exact (zw bX.out).2.1); (case side7 => refine (zw (e := 3) (base := w.heap.size) (ok := fun k_ => (some k_ ≠ (.slice ca bx.length bU : Value).ownBlock ∧ (some k_ ≠ (.slice bo ah.length bm : Value).ownBlock ∧ some k_ ≠ (.slice bq ag.length bn : Value).ownBlock))) (n := bC.length) (c := cb) ?_).2.2; exact (by (with_reducible repeat (first | apply zu | apply zt | apply zs)); exact (zx (zr (p := ⟨ad,8,none⟩) (zr (p := ⟨ad,7,none⟩) (zr (p := ⟨ad,6,none⟩) (zr (p := ⟨ad,5,none⟩) (zr (p := ⟨ad,4,none⟩) (zr (p := ⟨ad,3,none⟩) (zr (p := ⟨ad,2,none⟩) (zr (p := ⟨ad,1,none⟩) (zr (p := ⟨ad,0,none⟩) (zy bY.out aD.out (by decide)) (fun _ hk => hk.2) (.int .i64 bu)) (fun _ hk => hk.2) (.int .i64 bw)) (fun _ hk => hk.2) (.int .i64 bB)) (fun _ hk => hk.2) (.int .i64 bE)) (fun _ hk => hk.2) (.slice ca bx.length bU)) (fun _ hk => hk.2) (.slice cg bC.length cb)) (fun _ hk => hk.2) (.int .i64 bJ)) (fun _ hk => hk.2) (.string bN)) (fun _ hk => hk.2) (.bool bT)) (fun _ h_ => h_.1)))); (case side8 => exact (zw bY.out).2.1); rintro e op ⟨rfl,hb⟩; have az := zzk (zv (by (with_reducible repeat (first | apply zu | apply zt | apply zs)); exact (zx (zr (p := ⟨ad,8,none⟩) (zr (p := ⟨ad,7,none⟩) (zr (p := ⟨ad,6,none⟩) (zr (p := ⟨ad,5,none⟩) (zr (p := ⟨ad,4,none⟩) (zr (p := ⟨ad,3,none⟩) (zr (p := ⟨ad,2,none⟩) (zr (p := ⟨ad,1,none⟩) (zr (p := ⟨ad,0,none⟩) (zy HO_631004.out aD.out (by decide)) (fun _ hk => hk.2) (.int .i64 bu)) (fun _ hk => hk.2) (.int .i64 bw)) (fun _ hk => hk.2) (.int .i64 bB)) (fun _ hk => hk.2) (.int .i64 bE)) (fun _ hk => hk.2) (.slice ca bx.length bU)) (fun _ hk => hk.2) (.slice cg bC.length cb)) (fun _ hk => hk.2) (.int .i64 bJ)) (fun _ hk => hk.2) (.string bN)) (fun _ hk => hk.2) (.bool bT)) (fun _ h_ => h_.1))) hb); have aA := zzk (zv (by (with_reducible repeat (first | apply zu | apply zt | apply zs)); exact (zx (zr (p := ⟨ad,8,none⟩) (zr (p := ⟨ad,7,none⟩) (zr (p := ⟨ad,6,none⟩) (zr (p := ⟨ad,5,none⟩) (zr (p := ⟨ad,4,none⟩) (zr (p := ⟨ad,3,none⟩) (zr (p := ⟨ad,2,none⟩) (zr (p := ⟨ad,1,none⟩) (zr (p := ⟨ad,0,none⟩) (zy HO_631005.out aD.out (by decide)) (fun _ hk => hk.2) (.int .i64 bu)) (fun _ hk => hk.2) (.int .i64 bw)) (fun _ hk => hk.2) (.int .i64 bB)) (fun _ hk => hk.2) (.int .i64 bE)) (fun _ hk => hk.2) (.slice ca bx.length bU)) (fun _ hk => hk.2) (.slice cg bC.length cb)) (fun _ hk => hk.2) (.int .i64 bJ)) (fun _ hk => hk.2) (.string bN)) (fun _ hk => hk.2) (.bool bT)) (fun _ h_ => h_.1))) hb); have aB := zzk (zv (by (with_reducible repeat (first | apply zu | apply zt | apply zs)); exact (zx (zr (p := ⟨ad,8,none⟩) (zr (p := ⟨ad,7,none⟩) (zr (p := ⟨ad,6,none⟩) (zr (p := ⟨ad,5,none⟩) (zr (p := ⟨ad,4,none⟩) (zr (p := ⟨ad,3,none⟩) (zr (p := ⟨ad,2,none⟩) (zr (p := ⟨ad,1,none⟩) (zr (p := ⟨ad,0,none⟩) (zy bX.out aD.out (by decide)) (fun _ hk => hk.2) (.int .i64 bu)) (fun _ hk => hk.2) (.int .i64 bw)) (fun _ hk => hk.2) (.int .i64 bB)) (fun _ hk => hk.2) (.int .i64 bE)) (fun _ hk => hk.2) (.slice ca bx.length bU)) (fun _ hk => hk.2) (.slice cg bC.length cb)) (fun _ hk => hk.2) (.int .i64 bJ)) (fun _ hk => hk.2) (.string bN)) (fun _ hk => hk.2) (.bool bT)) (fun _ h_ => h_.1))) hb); have aC := zzk (zv (by (with_reducible repeat (first | apply zu | apply zt | apply zs)); exact (zx (zr (p := ⟨ad,8,none⟩) (zr (p := ⟨ad,7,none⟩) (zr (p := ⟨ad,6,none⟩) (zr (p := ⟨ad,5,none⟩) (zr (p := ⟨ad,4,none⟩) (zr (p := ⟨ad,3,none⟩) (zr (p := ⟨ad,2,none⟩) (zr (p := ⟨ad,1,none⟩) (zr (p := ⟨ad,0,none⟩) (zy bY.out aD.out (by decide)) (fun _ hk => hk.2) (.int .i64 bu)) (fun _ hk => hk.2) (.int .i64 bw)) (fun _ hk => hk.2) (.int .i64 bB)) (fun _ hk => hk.2) (.int .i64 bE)) (fun _ hk => hk.2) (.slice ca bx.length bU)) (fun _ hk => hk.2) (.slice cg bC.length cb)) (fun _ hk => hk.2) (.int .i64 bJ)) (fun _ hk => hk.2) (.string bN)) (fun _ hk => hk.2) (.bool bT)) (fun _ h_ => h_.1))) hb); have aE := zzk (zo (g := ao) (o := .cells #[.int .i64 au,.int .i64 av,.slice aG aq.length aH,.slice aI ar.length aJ,.string an] 26 (0,0)) (by (with_reducible repeat (first | refine zj ?_ _ | refine zl ?_ | refine zk ?_ _)); refine zn ?_ aK.out _; (with_reducible repeat (first | refine zj ?_ _ | refine zl ?_ | refine zk ?_ _)); refine zn ?_ aK.out _; (with_reducible repeat (first | refine zj ?_ _ | refine zl ?_ | refine zk ?_ _)); refine zn ?_ aK.out _; (with_reducible repeat (first | refine zj ?_ _ | refine zl ?_ | refine zk ?_ _)); refine zn ?_ aK.out _; (with_reducible repeat (first | refine zj ?_ _ | refine zl ?_ | refine zk ?_ _)); refine zn ?_ aK.out _; (with_reducible repeat (first | refine zj ?_ _ | refine zl ?_ | refine zk ?_ _)); refine zn ?_ aK.out _; (with_reducible repeat (first | refine zj ?_ _ | refine zl ?_ | refine zk ?_ _)); refine zn ?_ aK.out _; (with_reducible repeat (first | refine zj ?_ _ | refine zl ?_ | refine zk ?_ _)); refine zn ?_ aK.out _; (with_reducible repeat (first | refine zj ?_ _ | refine zl ?_ | refine zk ?_ _)); refine zn ?_ aK.out _; (with_reducible repeat (first | refine zj ?_ _ | refine zl ?_ | refine zk ?_ _)); exact ac.out) hb); have aT := zzk (zo (g := ab) (o := .cells #[.int .i64 am,.int .i64 al,.int .i64 ak,.int .i64 aj,.slice bo ah.length bm,.slice bq ag.length bn,.int .i64 ai,.string ae,.bool true] 34 (0,0)) (by (with_reducible repeat (first | refine zj ?_ _ | refine zl ?_ | refine zk ?_ _)); refine zn ?_ af.out _; (with_reducible repeat (first | refine zj ?_ _ | refine zl ?_ | refine zk ?_ _)); refine zn ?_ af.out _; (with_reducible repeat (first | refine zj ?_ _ | refine zl ?_ | refine zk ?_ _)); refine zn ?_ af.out _; (with_reducible repeat (first | refine zj ?_ _ | refine zl ?_ | refine zk ?_ _)); refine zn ?_ af.out _; (with_reducible repeat (first | refine zj ?_ _ | refine zl ?_ | refine zk ?_ _)); refine zn ?_ af.out _; (with_reducible repeat (first | refine zj ?_ _ | refine zl ?_ | refine zk ?_ _)); refine zn ?_ af.out _; (with_reducible repeat (first | refine zj ?_ _ | refine zl ?_ | refine zk ?_ _)); refine zn ?_ af.out _; (with_reducible repeat (first | refine zj ?_ _ | refine zl ?_ | refine zk ?_ _)); refine zn ?_ af.out _; (with_reducible repeat (first | refine zj ?_ _ | refine zl ?_ | refine zk ?_ _)); refine zn ?_ af.out _; (with_reducible repeat (first | refine zj ?_ _ | refine zl ?_ | refine zk ?_ _)); exact aa.out) hb); have aU := zzk (zo (g := ad) (o := .cells #[.int .i64 bu,.int .i64 bw,.int .i64 bB,.int .i64 bE,.slice ca bx.length bU,.slice cg bC.length cb,.int .i64 bJ,.string bN,.bool bT] 34 (0,0)) (by (with_reducible repeat (first | refine zj ?_ _ | refine zl ?_ | refine zk ?_ _)); refine zp (cs := #[.int .i64 bu,.int .i64 bw,.int .i64 bB,.int .i64 bE,.slice ca bx.length bU,.slice cg bC.length cb,.int .i64 bJ,.string bN,.bool false]) ?_ 8 _ rfl; (with_reducible repeat (first | refine zj ?_ _ | refine zl ?_ | refine zk ?_ _)); refine zp (cs := #[.int .i64 bu,.int .i64 bw,.int .i64 bB,.int .i64 bE,.slice ca bx.length bU,.slice cg bC.length cb,.int .i64 bJ,.string (⟨#[]⟩ : ByteArray),.bool false]) ?_ 7 _ rfl; (with_reducible repeat (first | refine zj ?_ _ | refine zl ?_ | refine zk ?_ _)); refine zp (cs := #[.int .i64 bu,.int .i64 bw,.int .i64 bB,.int .i64 bE,.slice ca bx.length bU,.slice cg bC.length cb,.int .i64 0,.string (⟨#[]⟩ : ByteArray),.bool false]) ?_ 6 _ rfl; (with_reducible repeat (first | refine zj ?_ _ | refine zl ?_ | refine zk ?_ _)); refine zp (cs := #[.int .i64 bu,.int .i64 bw,.int .i64 bB,.int .i64 bE,.slice ca bx.length bU,.slice none 0 0,.int .i64 0,.string (⟨#[]⟩ : ByteArray),.bool false]) ?_ 5 _ rfl; (with_reducible repeat (first | refine zj ?_ _ | refine zl ?_ | refine zk ?_ _)); refine zp (cs := #[.int .i64 bu,.int .i64 bw,.int .i64 bB,.int .i64 bE,.slice none 0 0,.slice none 0 0,.int .i64 0,.string (⟨#[]⟩ : ByteArray),.bool false]) ?_ 4 _ rfl; (with_reducible repeat (first | refine zj ?_ _ | refine zl ?_ | refine zk ?_ _)); refine zp (cs := #[.int .i64 bu,.int .i64 bw,.int .i64 bB,.int .i64 0,.slice none 0 0,.slice none 0 0,.int .i64 0,.string (⟨#[]⟩ : ByteArray),.bool false]) ?_ 3 _ rfl; (with_reducible repeat (first | refine zj ?_ _ | refine zl ?_ | refine zk ?_ _)); refine zp (cs := #[.int .i64 bu,.int .i64 bw,.int .i64 0,.int .i64 0,.slice none 0 0,.slice none 0 0,.int .i64 0,.string (⟨#[]⟩ : ByteArray),.bool false]) ?_ 2 _ rfl; (with_reducible repeat (first | refine zj ?_ _ | refine zl ?_ | refine zk ?_ _)); refine zp (cs := #[.int .i64 bu,.int .i64 0,.int .i64 0,.int .i64 0,.slice none 0 0,.slice none 0 0,.int .i64 0,.string (⟨#[]⟩ : ByteArray),.bool false]) ?_ 1 _ rfl; (with_reducible repeat (first | refine zj ?_ _ | refine zl ?_ | refine zk ?_ _)); refine zp (cs := #[.int .i64 0,.int .i64 0,.int .i64 0,.int .i64 0,.slice none 0 0,.slice none 0 0,.int .i64 0,.string (⟨#[]⟩ : ByteArray),.bool false]) ?_ 0 _ rfl; (with_reducible repeat (first | refine zj ?_ _ | refine zl ?_ | refine zk ?_ _)); exact aD.out) hb); have bs := zzk (Zs (by repeat (first | (with_reducible first | exact HB.out | apply Zq | apply Zp | apply Zo | refine Zn ?_ ax.out | refine Zn ?_ aF.out | refine Zn ?_ cq.out) | exact HB.out)) hb); clear HO_631004; clear HO_631005; clear bX; clear bY; clear ac; clear aa; clear aD; clear HB; have HO_631004 := az; have HO_631005 := aA; have bX := aB; have bY := aC; have ac := aE; have aa := aT; have aD := aU; have HB := bs; clear az aA aB aC aE aT aU bs; (try clear hb); (try clear hb2); (try clear hk); (try clear hi)))
                     go_meet
                     case rel => exact ⟨_,H',⟨by have := HJ5.out; have := HK2.out; have := HJ29.out; have := HJ48.out; first | omega | exact Nat.le_refl _⟩,⟨by (with_reducible repeat (first | apply zu | apply zt | apply zs)); exact zx HO_631004.out (fun _ hk => hk.2.2)⟩,⟨by (with_reducible repeat (first | apply zu | apply zt | apply zs)); exact zx HO_631005.out (fun _ hk => hk.2.2)⟩,⟨by (with_reducible repeat (first | refine zj ?_ _ | refine zl ?_ | refine zk ?_ _)); exact ac.out⟩,⟨by (with_reducible repeat (first | refine zj ?_ _ | refine zl ?_ | refine zk ?_ _)); exact aa.out⟩,⟨by repeat (first | (with_reducible first | exact HB.out | apply Zq | apply Zp | apply Zo | refine Zn ?_ ax.out | refine Zn ?_ aF.out | refine Zn ?_ cq.out) | exact HB.out)⟩⟩
                    ·
                     replace fj := Bool.eq_false_iff.mpr fj
                     subst fj
                     have H1 : (none) = some r := by rw [if_neg (show ¬ (false = true) by decide)] at H; exact H
                     clear H
                     have H := H1
                     clear H1
                     exact absurd H (by simp)
                   ·
                    rw [if_neg eG] at H
                    exact absurd H (by simp)
                 ·
                  rw [if_neg fh] at H
                  exact absurd H (by simp)
                ·
                 rw [if_neg fg] at H
                 exact absurd H (by simp)
               ·
                rw [if_neg fe] at H
                exact absurd H (by simp)
              ·
               replace fd := Bool.eq_false_iff.mpr fd
               subst fd
               have H1 : (L_ChunkWhole.j4 cn l3 l4 ap au av aq ar an am al ak aj ah ag ai ae true) = some r := by rw [if_neg (show ¬ (false = true) by decide)] at H; exact H
               clear H
               have H := H1
               clear H1
               have H' := zzk H
               clear H
               go_wp2
               go_meet
               case rel => exact ⟨_,H',⟨by have := HJ5.out; have := HK2.out; have := HJ29.out; have := HJ48.out; first | omega | exact Nat.le_refl _⟩,⟨by (with_reducible repeat (first | apply zu | apply zt | apply zs)); exact HO_631004.out⟩,⟨by (with_reducible repeat (first | apply zu | apply zt | apply zs)); exact HO_631005.out⟩,⟨by (with_reducible repeat (first | refine zj ?_ _ | refine zl ?_ | refine zk ?_ _)); exact ac.out⟩,⟨by (with_reducible repeat (first | refine zj ?_ _ | refine zl ?_ | refine zk ?_ _)); exact aa.out⟩,⟨by repeat (first | (with_reducible first | exact HB.out | apply Zq | apply Zp | apply Zo | refine Zn ?_ ax.out | refine Zn ?_ aF.out) | exact HB.out)⟩⟩
             case rest =>
              clear fC
              try clear c2
              try clear p2
              try clear c5
              try clear c6
              try clear p6
              try clear q6
              try clear hx6
              try clear c8
              try clear oq
              try clear fd
              try clear fe
              try clear eJ
              try clear fg
              try clear iE
              try clear fh
              try clear iF
              try clear p63
              try clear os
              try clear hx63
              try clear fi
              try clear eG
              try clear iG
              try clear iH
              try clear fj
              try clear ot
              try clear ou
              try clear ov
              try clear gG
              try clear gH
              try clear gI
              try clear gJ
              try clear gK
              try clear gL
              try clear gM
              try clear gN
              try clear gO
              try clear gY
              try clear gZ
              try clear ha
              try clear hc
              try clear hf
              try clear hh
              try clear hj
              try clear hl
              try clear hm
              try clear gP
              try clear gQ
              try clear gR
              try clear gS
              try clear gT
              try clear gU
              try clear gV
              try clear gW
              try clear gX
              try clear hn
              try clear hq
              try clear ht
              try clear hu
              try clear hv
              try clear hw
              try clear hx
              try clear hy
              try clear hz
              try clear hx636_0
              try clear hx637_0
              try clear p636
              try clear p637
              try clear eK
              try clear eL
              obtain ⟨kq,HA,HJ57,HO_631004,HO_631005,ac,aa,HB⟩ := hcut
              cases kq with
              | zero => exact absurd HA.out (by simp [L_ChunkWhole.j4])
              | succ dJ =>
               have H := HA.out
               clear HA
               simp only [L_ChunkWhole.j4] at H
               replace H := Option.bind_eq_some_iff.mp H
               obtain ⟨⟨eM,dK⟩,iu,H⟩ := H
               replace H : ((chunk_Take.f dJ am al ak aj ah ag ai ae true (ae.size : Int) eM).bind fun bl => (if dK = 0 then (if bl.2.2.2.2.2.2.2.2.2.2 = 0 then (if bl.2.2.2.2.2.2.2.2.2.1 = true then (L_ChunkWhole.l0 dJ l3 l4 (wrap64 (ap + 1)) au av aq ar an bl.1 bl.2.1 bl.2.2.1 bl.2.2.2.1 bl.2.2.2.2.1 bl.2.2.2.2.2.1 bl.2.2.2.2.2.2.1 bl.2.2.2.2.2.2.2.1 bl.2.2.2.2.2.2.2.2.1) else (none)) else (none)) else (none))) = some r := H
               have mX := zzk iu
               clear iu
               replace H := Option.bind_eq_some_iff.mp H
               obtain ⟨⟨cc,ch,cr,cw,cx,cE,da,dg,dq,iv,dV⟩,iw,H⟩ := H
               replace H : (if dK = 0 then (if dV = 0 then (if iv = true then (L_ChunkWhole.l0 dJ l3 l4 (wrap64 (ap + 1)) au av aq ar an cc ch cr cw cx cE da dg dq) else (none)) else (none)) else (none)) = some r := H
               have mY := zzk iw
               clear iw
               by_cases fk : dK = 0
               ·
                rw [if_pos fk] at H
                have nB : (dK == 0) = true := beq_iff_eq.mpr fk
                have nC : (dK != 0) = false := bne_eq_false_iff_eq.mpr fk
                clear fk
                by_cases fl : dV = 0
                ·
                 rw [if_pos fl] at H
                 have nD : (dV == 0) = true := beq_iff_eq.mpr fl
                 have nE : (dV != 0) = false := bne_eq_false_iff_eq.mpr fl
                 clear fl
                 by_cases fS : iv = true
                 ·
                  subst fS
                  have H1 : (L_ChunkWhole.l0 dJ l3 l4 (wrap64 (ap + 1)) au av aq ar an cc ch cr cw cx cE da dg dq) = some r := by rw [if_pos rfl] at H; exact H
                  clear H
                  have H := H1
                  clear H1
                  have H' := zzk H
                  clear H
                  have nF := ay.out
                  have nG := bS.out
                  have mi : wc.cell? ⟨ao,0,none⟩ = some (.int .i64 au) := (zi ac.out 0).trans rfl
                  have mj : wc.cell? ⟨ao,1,none⟩ = some (.int .i64 av) := (zi ac.out 1).trans rfl
                  have ml : wc.cell? ⟨ao,2,none⟩ = some (.slice aG aq.length aH) := (zi ac.out 2).trans rfl
                  have mm : wc.cell? ⟨ao,3,none⟩ = some (.slice aI ar.length aJ) := (zi ac.out 3).trans rfl
                  have mo : wc.cell? ⟨ao,4,none⟩ = some (.string an) := (zi ac.out 4).trans rfl
                  have mq := zm ac.out 0
                  have mr := zm ac.out 1
                  have ms := zm ac.out 2
                  have mt := zm ac.out 3
                  have mu := zm ac.out 4
                  have mv : wc.cell? ⟨ab,0,none⟩ = some (.int .i64 am) := (zi aa.out 0).trans rfl
                  have mw : wc.cell? ⟨ab,1,none⟩ = some (.int .i64 al) := (zi aa.out 1).trans rfl
                  have my : wc.cell? ⟨ab,2,none⟩ = some (.int .i64 ak) := (zi aa.out 2).trans rfl
                  have mz : wc.cell? ⟨ab,3,none⟩ = some (.int .i64 aj) := (zi aa.out 3).trans rfl
                  have mA : wc.cell? ⟨ab,4,none⟩ = some (aQ) := (zi aa.out 4).trans rfl
                  have mB : wc.cell? ⟨ab,5,none⟩ = some (aR) := (zi aa.out 5).trans rfl
                  have mC : wc.cell? ⟨ab,6,none⟩ = some (.int .i64 ai) := (zi aa.out 6).trans rfl
                  have mD : wc.cell? ⟨ab,7,none⟩ = some (.string ae) := (zi aa.out 7).trans rfl
                  have mE : wc.cell? ⟨ab,8,none⟩ = some (.bool true) := (zi aa.out 8).trans rfl
                  have mF := zm aa.out 0
                  have mG := zm aa.out 1
                  have mH := zm aa.out 2
                  have mI := zm aa.out 3
                  have mJ := zm aa.out 4
                  have mK := zm aa.out 5
                  have mL := zm aa.out 6
                  have mM := zm aa.out 7
                  have mN := zm aa.out 8
                  go_wp2_with (first | ((with_reducible refine zza (f := 9) rfl ?_); refine zzd (some 144) rfl rfl Try.func9 (by kernel_rfl) rfl #[.agg #[.int .i64 au,.int .i64 av,.slice aG aq.length aH,.slice aI ar.length aJ,.string an],.int .i64 (ae.size : Int)] rfl (by (try simp only [zd,ze,zf]); first | done | rfl | (simp only [zg,zh]; rfl)) ?_; (with_reducible refine (chunk_Cut.calls au av _ _ aq _ _ ar an (ae.size : Int) eM dK _ ?side1 ?side2 ?side3 ?side4 mX.out).mono ?_); (case side1 => repeat (first | exact (Zm dc.out HB.out) | (with_reducible refine Zk ?_ _) | (with_reducible refine Zj ?_ _) | (with_reducible refine Zl ?_))); (case side2 => exact dd.out); (case side3 => repeat (first | exact (Zm de.out HB.out) | (with_reducible refine Zk ?_ _) | (with_reducible refine Zj ?_ _) | (with_reducible refine Zl ?_))); (case side4 => exact df.out); rintro e dD ⟨rfl,hb⟩; refine ⟨_,rfl,?_⟩; have az := zzk (zv (by (with_reducible repeat (first | apply zu | apply zt | apply zs)); exact HO_631004.out) hb); have aA := zzk (zv (by (with_reducible repeat (first | apply zu | apply zt | apply zs)); exact HO_631005.out) hb); have aB := zzk (zo (g := ao) (o := .cells #[.int .i64 au,.int .i64 av,.slice aG aq.length aH,.slice aI ar.length aJ,.string an] 26 (0,0)) (by (with_reducible repeat (first | refine zj ?_ _ | refine zl ?_ | refine zk ?_ _)); exact ac.out) hb); have aC := zzk (zo (g := ab) (o := .cells #[.int .i64 am,.int .i64 al,.int .i64 ak,.int .i64 aj,aQ,aR,.int .i64 ai,.string ae,.bool true] 34 (0,0)) (by (with_reducible repeat (first | refine zj ?_ _ | refine zl ?_ | refine zk ?_ _)); exact aa.out) hb); have aE := zzk (Zs (by repeat (first | (with_reducible first | exact HB.out | apply Zq | apply Zp | apply Zo | refine Zn ?_ ax.out | refine Zn ?_ aF.out) | exact HB.out)) hb); clear HO_631004; clear HO_631005; clear ac; clear aa; clear HB; have HO_631004 := az; have HO_631005 := aA; have ac := aB; have aa := aC; have HB := aE; clear az aA aB aC aE; (try clear hb); (try clear hb2); (try clear hk); (try clear hi); have je : dD.cell? ⟨ab,0,none⟩ = some (.int .i64 am) := (zi aa.out 0).trans rfl; have jf : dD.cell? ⟨ab,1,none⟩ = some (.int .i64 al) := (zi aa.out 1).trans rfl; have jg : dD.cell? ⟨ab,2,none⟩ = some (.int .i64 ak) := (zi aa.out 2).trans rfl; have jh : dD.cell? ⟨ab,3,none⟩ = some (.int .i64 aj) := (zi aa.out 3).trans rfl; have ji : dD.cell? ⟨ab,4,none⟩ = some (aQ) := (zi aa.out 4).trans rfl; have jj : dD.cell? ⟨ab,5,none⟩ = some (aR) := (zi aa.out 5).trans rfl; have jk : dD.cell? ⟨ab,6,none⟩ = some (.int .i64 ai) := (zi aa.out 6).trans rfl; have jl : dD.cell? ⟨ab,7,none⟩ = some (.string ae) := (zi aa.out 7).trans rfl; have jm : dD.cell? ⟨ab,8,none⟩ = some (.bool true) := (zi aa.out 8).trans rfl; have jn := zm aa.out 0; have jo := zm aa.out 1; have jp := zm aa.out 2; have jq := zm aa.out 3; have jr := zm aa.out 4; have js := zm aa.out 5; have jt := zm aa.out 6; have ju := zm aa.out 7; have jv := zm aa.out 8; obtain ⟨ct,cu,eo101⟩ := zz HO_631004.out; subst eo101; obtain ⟨ce,cf,eo102⟩ := zz HO_631005.out; subst eo102) | ((with_reducible refine zza (f := 22) rfl ?_); refine zzd (some 153) rfl rfl Try.func22 (by kernel_rfl) rfl #[.agg #[.int .i64 am,.int .i64 al,.int .i64 ak,.int .i64 aj,.slice ct ah.length cu,.slice ce ag.length cf,.int .i64 ai,.string ae,.bool true],.int .i64 (ae.size : Int),.string eM] rfl (by (try simp only [zd,ze,zf]); first | done | rfl | (simp only [zg,zh]; rfl)) ?_; (with_reducible refine (chunk_Take.calls dJ am al ak aj _ _ ah _ _ ag ai ae true (ae.size : Int) eM cc ch cr cw cx cE da dg dq true dV _ ?side1 ?side2 ?side3 ?side4 mY.out).mono ?_); (case side1 => repeat (first | exact (zw HO_631004.out).2.2 | (with_reducible refine Zk ?_ _) | (with_reducible refine Zj ?_ _) | (with_reducible refine Zl ?_))); (case side2 => exact (zw HO_631004.out).2.1); (case side3 => repeat (first | exact (zw HO_631005.out).2.2 | (with_reducible refine Zk ?_ _) | (with_reducible refine Zj ?_ _) | (with_reducible refine Zl ?_))); (case side4 => exact (zw HO_631005.out).2.1); rintro e nJ ⟨nK,nL,rfl,ho0,ho1,hb⟩; refine ⟨_,rfl,?_⟩; have az := zzk (zx (Zc (Zc (Kd.R_old (by (with_reducible repeat (first | apply zu | apply zt | apply zs)); exact HO_631004.out) hb) (Zd ho0)) (Zd ho1)) (fun _ h_ => h_.1)); have aA := zzk (zx (Zc (Zc (Kd.R_old (by (with_reducible repeat (first | apply zu | apply zt | apply zs)); exact HO_631005.out) hb) (Zd ho0)) (Zd ho1)) (fun _ h_ => h_.1)); have aB := zzk (Za (Zb (Zb ho0 (Kd.R_lt (by (with_reducible repeat (first | apply zu | apply zt | apply zs)); exact HO_631004.out))) (Kd.R_lt (by (with_reducible repeat (first | apply zu | apply zt | apply zs)); exact HO_631005.out))) (Zr (by repeat (first | (with_reducible first | exact HB.out | apply Zq | apply Zp | apply Zo | refine Zn ?_ ax.out | refine Zn ?_ aF.out) | exact HB.out)))); have aC := zzk (Za (Zb (Zb ho1 (Kd.R_lt (by (with_reducible repeat (first | apply zu | apply zt | apply zs)); exact HO_631004.out))) (Kd.R_lt (by (with_reducible repeat (first | apply zu | apply zt | apply zs)); exact HO_631005.out))) (Zr (by repeat (first | (with_reducible first | exact HB.out | apply Zq | apply Zp | apply Zo | refine Zn ?_ ax.out | refine Zn ?_ aF.out) | exact HB.out)))); have aE := zzk (zo (g := ao) (o := .cells #[.int .i64 au,.int .i64 av,.slice aG aq.length aH,.slice aI ar.length aJ,.string an] 26 (0,0)) (by (with_reducible repeat (first | refine zj ?_ _ | refine zl ?_ | refine zk ?_ _)); exact ac.out) hb); have aT := zzk (zo (g := ab) (o := .cells #[.int .i64 am,.int .i64 al,.int .i64 ak,.int .i64 aj,.slice ct ah.length cu,.slice ce ag.length cf,.int .i64 ai,.string ae,.bool true] 34 (0,0)) (by (with_reducible repeat (first | refine zj ?_ _ | refine zl ?_ | refine zk ?_ _)); exact aa.out) hb); have aU := zzk (Zs (by repeat (first | (with_reducible first | exact HB.out | apply Zq | apply Zp | apply Zo | refine Zn ?_ ax.out | refine Zn ?_ aF.out) | exact HB.out)) hb); clear HO_631004; clear HO_631005; clear ac; clear aa; clear HB; have HO_631004 := az; have HO_631005 := aA; have dE := aB; have dF := aC; have ac := aE; have aa := aT; have HB := aU; clear az aA aB aC aE aT aU; (try clear hb); (try clear hb2); (try clear hk); (try clear hi); (try clear ho0); (try clear ho1)) | ((with_reducible refine Zy (N := 19) rfl ?_); (try (refine Zz (by rfl) ?_; dsimp only)); refine zzc ?hg (N := 19) ?hd (cs := #[.int .i64 0,.int .i64 0,.int .i64 0,.int .i64 0,.slice none 0 0,.slice none 0 0,.int .i64 0,.string (⟨#[]⟩ : ByteArray),.bool false]) (t := 34) ?hr ?_; (case hd => rfl); (case hg => rfl); (case hr => first | (go_simp; done) | (go_simp; rfl)); intro aN hg bO hbox hb; have az := zzk (zv (by (with_reducible repeat (first | apply zu | apply zt | apply zs)); exact HO_631004.out) hb); have aA := zzk (zv (by (with_reducible repeat (first | apply zu | apply zt | apply zs)); exact HO_631005.out) hb); have aB := zzk (zv (by (with_reducible repeat (first | apply zu | apply zt | apply zs)); exact dE.out) hb); have aC := zzk (zv (by (with_reducible repeat (first | apply zu | apply zt | apply zs)); exact dF.out) hb); have aE := zzk (zo (g := ao) (o := .cells #[.int .i64 au,.int .i64 av,.slice aG aq.length aH,.slice aI ar.length aJ,.string an] 26 (0,0)) (by (with_reducible repeat (first | refine zj ?_ _ | refine zl ?_ | refine zk ?_ _)); exact ac.out) hb); have aT := zzk (zo (g := ab) (o := .cells #[.int .i64 am,.int .i64 al,.int .i64 ak,.int .i64 aj,.slice ct ah.length cu,.slice ce ag.length cf,.int .i64 ai,.string ae,.bool true] 34 (0,0)) (by (with_reducible repeat (first | refine zj ?_ _ | refine zl ?_ | refine zk ?_ _)); exact aa.out) hb); have aU := zzk (Zs (by repeat (first | (with_reducible first | exact HB.out | apply Zq | apply Zp | apply Zo | refine Zn ?_ ax.out | refine Zn ?_ aF.out) | exact HB.out)) hb); have bs := zzk (hbox); have cj := zzk ((by rw [hg]; exact (Zr (by repeat (first | (with_reducible first | exact HB.out | apply Zq | apply Zp | apply Zo | refine Zn ?_ ax.out | refine Zn ?_ aF.out) | exact HB.out))) : w.heap.size ≤ aN)); have cN := zzk ((by rw [hg]; exact (Zr (by repeat (first | (with_reducible first | exact HB.out | apply Zq | apply Zp | apply Zo | refine Zn ?_ ax.out | refine Zn ?_ aF.out) | exact HB.out))) : w.heap.size ≤ aN)); have co := zzk ((by rw [hg]; exact Nat.ne_of_lt (zq (g := ao) (o := .cells #[.int .i64 au,.int .i64 av,.slice aG aq.length aH,.slice aI ar.length aJ,.string an] 26 (0,0)) (by (with_reducible repeat (first | refine zj ?_ _ | refine zl ?_ | refine zk ?_ _)); exact ac.out)) : ao ≠ aN)); have cp := zzk ((by rw [hg]; exact Nat.ne_of_gt (zq (g := ao) (o := .cells #[.int .i64 au,.int .i64 av,.slice aG aq.length aH,.slice aI ar.length aJ,.string an] 26 (0,0)) (by (with_reducible repeat (first | refine zj ?_ _ | refine zl ?_ | refine zk ?_ _)); exact ac.out)) : aN ≠ ao)); have cK := zzk ((by rw [hg]; exact Nat.ne_of_lt (zq (g := ab) (o := .cells #[.int .i64 am,.int .i64 al,.int .i64 ak,.int .i64 aj,.slice ct ah.length cu,.slice ce ag.length cf,.int .i64 ai,.string ae,.bool true] 34 (0,0)) (by (with_reducible repeat (first | refine zj ?_ _ | refine zl ?_ | refine zk ?_ _)); exact aa.out)) : ab ≠ aN)); have cL := zzk ((by rw [hg]; exact Nat.ne_of_gt (zq (g := ab) (o := .cells #[.int .i64 am,.int .i64 al,.int .i64 ak,.int .i64 aj,.slice ct ah.length cu,.slice ce ag.length cf,.int .i64 ai,.string ae,.bool true] 34 (0,0)) (by (with_reducible repeat (first | refine zj ?_ _ | refine zl ?_ | refine zk ?_ _)); exact aa.out)) : aN ≠ ab)); clear HO_631004; clear HO_631005; clear dE; clear dF; clear ac; clear aa; clear HB; have HO_631004 := az; have HO_631005 := aA; have dE := aB; have dF := aC; have ac := aE; have aa := aT; have HB := aU; have bt := bs; have nH := cj; have iI := cN; have bz := co; have fm := cp; have bA := cK; have fn := cL; clear az aA aB aC aE aT aU bs cj cN co cp cK cL; clear hb hbox hg; have mZ := fm.out; have na := bz.out; have nb := fn.out; have nc := bA.out; have jw : bO.cell? ⟨aN,0,none⟩ = some (.int .i64 0) := (zi bt.out 0).trans rfl; have jx : bO.cell? ⟨aN,1,none⟩ = some (.int .i64 0) := (zi bt.out 1).trans rfl; have jy : bO.cell? ⟨aN,2,none⟩ = some (.int .i64 0) := (zi bt.out 2).trans rfl; have jz : bO.cell? ⟨aN,3,none⟩ = some (.int .i64 0) := (zi bt.out 3).trans rfl; have jA : bO.cell? ⟨aN,4,none⟩ = some (.slice none 0 0) := (zi bt.out 4).trans rfl; have jB : bO.cell? ⟨aN,5,none⟩ = some (.slice none 0 0) := (zi bt.out 5).trans rfl; have jC : bO.cell? ⟨aN,6,none⟩ = some (.int .i64 0) := (zi bt.out 6).trans rfl; have jD : bO.cell? ⟨aN,7,none⟩ = some (.string (⟨#[]⟩ : ByteArray)) := (zi bt.out 7).trans rfl; have jE : bO.cell? ⟨aN,8,none⟩ = some (.bool false) := (zi bt.out 8).trans rfl; have jF := zm bt.out 0; have jG := zm bt.out 1; have jH := zm bt.out 2; have jI := zm bt.out 3; have jJ := zm bt.out 4; have jK := zm bt.out 5; have jL := zm bt.out 6; have jM := zm bt.out 7; have jN := zm bt.out 8; obtain ⟨cF,cG,eo108⟩ := zz dE.out; subst eo108; obtain ⟨cO,cP,eo109⟩ := zz dF.out; subst eo109; have jO : bO.cell? ⟨ab,0,none⟩ = some (.int .i64 am) := (zi aa.out 0).trans rfl; have jP : bO.cell? ⟨ab,1,none⟩ = some (.int .i64 al) := (zi aa.out 1).trans rfl; have jQ : bO.cell? ⟨ab,2,none⟩ = some (.int .i64 ak) := (zi aa.out 2).trans rfl; have jR : bO.cell? ⟨ab,3,none⟩ = some (.int .i64 aj) := (zi aa.out 3).trans rfl; have jS : bO.cell? ⟨ab,4,none⟩ = some (.slice ct ah.length cu) := (zi aa.out 4).trans rfl; have jT : bO.cell? ⟨ab,5,none⟩ = some (.slice ce ag.length cf) := (zi aa.out 5).trans rfl; have jU : bO.cell? ⟨ab,6,none⟩ = some (.int .i64 ai) := (zi aa.out 6).trans rfl; have jV : bO.cell? ⟨ab,7,none⟩ = some (.string ae) := (zi aa.out 7).trans rfl; have jW : bO.cell? ⟨ab,8,none⟩ = some (.bool true) := (zi aa.out 8).trans rfl; have jX := zm aa.out 0; have jY := zm aa.out 1; have jZ := zm aa.out 2; have ka := zm aa.out 3; have kb := zm aa.out 4; have kc := zm aa.out 5; have ke := zm aa.out 6; have kf := zm aa.out 7; have kg := zm aa.out 8))
                  go_roundg dJ
                  case measure => have := HJ5.out; have := HK2.out; have := HJ29.out; have := HJ48.out; have := HJ57.out; omega
                  case rel => exact ⟨(wrap64 (ap + 1)),(cc),(ch),(cr),(cw),(cx),(cE),(da),(dg),(dq),(.slice cF cx.length cG),(.slice cO cE.length cP),(by first | rfl | (simp; done) | (simp [*]; done)),H',⟨by have := HJ5.out; have := HK2.out; have := HJ29.out; have := HJ48.out; have := HJ57.out; omega⟩,⟨by (with_reducible repeat (first | apply zu | apply zt | apply zs)); exact zx (zr (p := ⟨ab,8,none⟩) (zr (p := ⟨ab,7,none⟩) (zr (p := ⟨ab,6,none⟩) (zr (p := ⟨ab,5,none⟩) (zr (p := ⟨ab,4,none⟩) (zr (p := ⟨ab,3,none⟩) (zr (p := ⟨ab,2,none⟩) (zr (p := ⟨ab,1,none⟩) (zr (p := ⟨ab,0,none⟩) (zr (p := ⟨aN,8,none⟩) (zr (p := ⟨aN,7,none⟩) (zr (p := ⟨aN,6,none⟩) (zr (p := ⟨aN,5,none⟩) (zr (p := ⟨aN,4,none⟩) (zr (p := ⟨aN,3,none⟩) (zr (p := ⟨aN,2,none⟩) (zr (p := ⟨aN,1,none⟩) (zr (p := ⟨aN,0,none⟩) (zy (zy dE.out bt.out (by decide)) aa.out (by decide)) (fun _ hk => hk.1.2) (.int .i64 cc)) (fun _ hk => hk.1.2) (.int .i64 ch)) (fun _ hk => hk.1.2) (.int .i64 cr)) (fun _ hk => hk.1.2) (.int .i64 cw)) (fun _ hk => hk.1.2) (.slice cF cx.length cG)) (fun _ hk => hk.1.2) (.slice cO cE.length cP)) (fun _ hk => hk.1.2) (.int .i64 da)) (fun _ hk => hk.1.2) (.string dg)) (fun _ hk => hk.1.2) (.bool dq)) (fun _ hk => hk.2) (.int .i64 cc)) (fun _ hk => hk.2) (.int .i64 ch)) (fun _ hk => hk.2) (.int .i64 cr)) (fun _ hk => hk.2) (.int .i64 cw)) (fun _ hk => hk.2) (.slice cF cx.length cG)) (fun _ hk => hk.2) (.slice cO cE.length cP)) (fun _ hk => hk.2) (.int .i64 da)) (fun _ hk => hk.2) (.string dg)) (fun _ hk => hk.2) (.bool dq)) (fun _ hk => hk.1.1.1.1)⟩,⟨by (with_reducible repeat (first | apply zu | apply zt | apply zs)); exact zx (zr (p := ⟨ab,8,none⟩) (zr (p := ⟨ab,7,none⟩) (zr (p := ⟨ab,6,none⟩) (zr (p := ⟨ab,5,none⟩) (zr (p := ⟨ab,4,none⟩) (zr (p := ⟨ab,3,none⟩) (zr (p := ⟨ab,2,none⟩) (zr (p := ⟨ab,1,none⟩) (zr (p := ⟨ab,0,none⟩) (zr (p := ⟨aN,8,none⟩) (zr (p := ⟨aN,7,none⟩) (zr (p := ⟨aN,6,none⟩) (zr (p := ⟨aN,5,none⟩) (zr (p := ⟨aN,4,none⟩) (zr (p := ⟨aN,3,none⟩) (zr (p := ⟨aN,2,none⟩) (zr (p := ⟨aN,1,none⟩) (zr (p := ⟨aN,0,none⟩) (zy (zy dF.out bt.out (by decide)) aa.out (by decide)) (fun _ hk => hk.1.2) (.int .i64 cc)) (fun _ hk => hk.1.2) (.int .i64 ch)) (fun _ hk => hk.1.2) (.int .i64 cr)) (fun _ hk => hk.1.2) (.int .i64 cw)) (fun _ hk => hk.1.2) (.slice cF cx.length cG)) (fun _ hk => hk.1.2) (.slice cO cE.length cP)) (fun _ hk => hk.1.2) (.int .i64 da)) (fun _ hk => hk.1.2) (.string dg)) (fun _ hk => hk.1.2) (.bool dq)) (fun _ hk => hk.2) (.int .i64 cc)) (fun _ hk => hk.2) (.int .i64 ch)) (fun _ hk => hk.2) (.int .i64 cr)) (fun _ hk => hk.2) (.int .i64 cw)) (fun _ hk => hk.2) (.slice cF cx.length cG)) (fun _ hk => hk.2) (.slice cO cE.length cP)) (fun _ hk => hk.2) (.int .i64 da)) (fun _ hk => hk.2) (.string dg)) (fun _ hk => hk.2) (.bool dq)) (fun _ hk => hk.1.1.1.1)⟩,⟨by (with_reducible repeat (first | refine zj ?_ _ | refine zl ?_ | refine zk ?_ _)); refine zn ?_ ay.out _; (with_reducible repeat (first | refine zj ?_ _ | refine zl ?_ | refine zk ?_ _)); refine zn ?_ ay.out _; (with_reducible repeat (first | refine zj ?_ _ | refine zl ?_ | refine zk ?_ _)); refine zn ?_ ay.out _; (with_reducible repeat (first | refine zj ?_ _ | refine zl ?_ | refine zk ?_ _)); refine zn ?_ ay.out _; (with_reducible repeat (first | refine zj ?_ _ | refine zl ?_ | refine zk ?_ _)); refine zn ?_ ay.out _; (with_reducible repeat (first | refine zj ?_ _ | refine zl ?_ | refine zk ?_ _)); refine zn ?_ ay.out _; (with_reducible repeat (first | refine zj ?_ _ | refine zl ?_ | refine zk ?_ _)); refine zn ?_ ay.out _; (with_reducible repeat (first | refine zj ?_ _ | refine zl ?_ | refine zk ?_ _)); refine zn ?_ ay.out _; (with_reducible repeat (first | refine zj ?_ _ | refine zl ?_ | refine zk ?_ _)); refine zn ?_ ay.out _; (with_reducible repeat (first | refine zj ?_ _ | refine zl ?_ | refine zk ?_ _)); refine zn ?_ bz.out _; (with_reducible repeat (first | refine zj ?_ _ | refine zl ?_ | refine zk ?_ _)); refine zn ?_ bz.out _; (with_reducible repeat (first | refine zj ?_ _ | refine zl ?_ | refine zk ?_ _)); refine zn ?_ bz.out _; (with_reducible repeat (first | refine zj ?_ _ | refine zl ?_ | refine zk ?_ _)); refine zn ?_ bz.out _; (with_reducible repeat (first | refine zj ?_ _ | refine zl ?_ | refine zk ?_ _)); refine zn ?_ bz.out _; (with_reducible repeat (first | refine zj ?_ _ | refine zl ?_ | refine zk ?_ _)); refine zn ?_ bz.out _; (with_reducible repeat (first | refine zj ?_ _ | refine zl ?_ | refine zk ?_ _)); refine zn ?_ bz.out _; (with_reducible repeat (first | refine zj ?_ _ | refine zl ?_ | refine zk ?_ _)); refine zn ?_ bz.out _; (with_reducible repeat (first | refine zj ?_ _ | refine zl ?_ | refine zk ?_ _)); refine zn ?_ bz.out _; (with_reducible repeat (first | refine zj ?_ _ | refine zl ?_ | refine zk ?_ _)); exact ac.out⟩,⟨by (with_reducible repeat (first | refine zj ?_ _ | refine zl ?_ | refine zk ?_ _)); refine zp (cs := #[.int .i64 cc,.int .i64 ch,.int .i64 cr,.int .i64 cw,.slice cF cx.length cG,.slice cO cE.length cP,.int .i64 da,.string dg,.bool true]) ?_ 8 _ rfl; (with_reducible repeat (first | refine zj ?_ _ | refine zl ?_ | refine zk ?_ _)); refine zp (cs := #[.int .i64 cc,.int .i64 ch,.int .i64 cr,.int .i64 cw,.slice cF cx.length cG,.slice cO cE.length cP,.int .i64 da,.string ae,.bool true]) ?_ 7 _ rfl; (with_reducible repeat (first | refine zj ?_ _ | refine zl ?_ | refine zk ?_ _)); refine zp (cs := #[.int .i64 cc,.int .i64 ch,.int .i64 cr,.int .i64 cw,.slice cF cx.length cG,.slice cO cE.length cP,.int .i64 ai,.string ae,.bool true]) ?_ 6 _ rfl; (with_reducible repeat (first | refine zj ?_ _ | refine zl ?_ | refine zk ?_ _)); refine zp (cs := #[.int .i64 cc,.int .i64 ch,.int .i64 cr,.int .i64 cw,.slice cF cx.length cG,.slice ce ag.length cf,.int .i64 ai,.string ae,.bool true]) ?_ 5 _ rfl; (with_reducible repeat (first | refine zj ?_ _ | refine zl ?_ | refine zk ?_ _)); refine zp (cs := #[.int .i64 cc,.int .i64 ch,.int .i64 cr,.int .i64 cw,.slice ct ah.length cu,.slice ce ag.length cf,.int .i64 ai,.string ae,.bool true]) ?_ 4 _ rfl; (with_reducible repeat (first | refine zj ?_ _ | refine zl ?_ | refine zk ?_ _)); refine zp (cs := #[.int .i64 cc,.int .i64 ch,.int .i64 cr,.int .i64 aj,.slice ct ah.length cu,.slice ce ag.length cf,.int .i64 ai,.string ae,.bool true]) ?_ 3 _ rfl; (with_reducible repeat (first | refine zj ?_ _ | refine zl ?_ | refine zk ?_ _)); refine zp (cs := #[.int .i64 cc,.int .i64 ch,.int .i64 ak,.int .i64 aj,.slice ct ah.length cu,.slice ce ag.length cf,.int .i64 ai,.string ae,.bool true]) ?_ 2 _ rfl; (with_reducible repeat (first | refine zj ?_ _ | refine zl ?_ | refine zk ?_ _)); refine zp (cs := #[.int .i64 cc,.int .i64 al,.int .i64 ak,.int .i64 aj,.slice ct ah.length cu,.slice ce ag.length cf,.int .i64 ai,.string ae,.bool true]) ?_ 1 _ rfl; (with_reducible repeat (first | refine zj ?_ _ | refine zl ?_ | refine zk ?_ _)); refine zp (cs := #[.int .i64 am,.int .i64 al,.int .i64 ak,.int .i64 aj,.slice ct ah.length cu,.slice ce ag.length cf,.int .i64 ai,.string ae,.bool true]) ?_ 0 _ rfl; (with_reducible repeat (first | refine zj ?_ _ | refine zl ?_ | refine zk ?_ _)); refine zn ?_ bA.out _; (with_reducible repeat (first | refine zj ?_ _ | refine zl ?_ | refine zk ?_ _)); refine zn ?_ bA.out _; (with_reducible repeat (first | refine zj ?_ _ | refine zl ?_ | refine zk ?_ _)); refine zn ?_ bA.out _; (with_reducible repeat (first | refine zj ?_ _ | refine zl ?_ | refine zk ?_ _)); refine zn ?_ bA.out _; (with_reducible repeat (first | refine zj ?_ _ | refine zl ?_ | refine zk ?_ _)); refine zn ?_ bA.out _; (with_reducible repeat (first | refine zj ?_ _ | refine zl ?_ | refine zk ?_ _)); refine zn ?_ bA.out _; (with_reducible repeat (first | refine zj ?_ _ | refine zl ?_ | refine zk ?_ _)); refine zn ?_ bA.out _; (with_reducible repeat (first | refine zj ?_ _ | refine zl ?_ | refine zk ?_ _)); refine zn ?_ bA.out _; (with_reducible repeat (first | refine zj ?_ _ | refine zl ?_ | refine zk ?_ _)); refine zn ?_ bA.out _; (with_reducible repeat (first | refine zj ?_ _ | refine zl ?_ | refine zk ?_ _)); exact aa.out⟩,⟨by repeat (first | (with_reducible first | exact HB.out | apply Zq | apply Zp | apply Zo | refine Zn ?_ ax.out | refine Zn ?_ aF.out | refine Zn ?_ iI.out) | exact HB.out)⟩⟩
                 ·
                  replace fS := Bool.eq_false_iff.mpr fS
                  subst fS
                  have H1 : (none) = some r := by rw [if_neg (show ¬ (false = true) by decide)] at H; exact H
                  clear H
                  have H := H1
                  clear H1
                  exact absurd H (by simp)
                ·
                 rw [if_neg fl] at H
                 exact absurd H (by simp)
               ·
                rw [if_neg fk] at H
                exact absurd H (by simp)
       ·
        replace fK := Bool.eq_false_iff.mpr fK
        subst fK
        have H1 : ((chunk_Whole.f k2 am al ak aj ah ag ai ae false).bind fun bW => ((L_begins.f k2).bind fun dm => (if dm = true then ((L_takes.f k2).bind fun cC => (if cC = true then (if bW.2.2.2.2.2 = 0 then ((r08_SameSnap.f k2 bW.1 bW.2.1 bW.2.2.1 bW.2.2.2.1 bW.2.2.2.2.1 au av aq ar an).bind fun bZ => (some bZ)) else (none)) else (none))) else (none)))) = some r := by rw [if_neg (show ¬ (false = true) by decide)] at H; exact H
        clear H
        have H := H1
        clear H1
        replace H := Option.bind_eq_some_iff.mp H
        obtain ⟨⟨bK,bP,bV,cd,ci,dh⟩,fT,H⟩ := H
        replace H : ((L_begins.f k2).bind fun dm => (if dm = true then ((L_takes.f k2).bind fun cC => (if cC = true then (if dh = 0 then ((r08_SameSnap.f k2 bK bP bV cd ci au av aq ar an).bind fun bZ => (some bZ)) else (none)) else (none))) else (none))) = some r := H
        have kh := zzk fT
        clear fT
        replace H := Option.bind_eq_some_iff.mp H
        obtain ⟨dm,fU,H⟩ := H
        replace H : (if dm = true then ((L_takes.f k2).bind fun cC => (if cC = true then (if dh = 0 then ((r08_SameSnap.f k2 bK bP bV cd ci au av aq ar an).bind fun bZ => (some bZ)) else (none)) else (none))) else (none)) = some r := H
        have ki := zzk fU
        clear fU
        by_cases eN : dm = true
        ·
         subst eN
         have H1 : ((L_takes.f k2).bind fun cC => (if cC = true then (if dh = 0 then ((r08_SameSnap.f k2 bK bP bV cd ci au av aq ar an).bind fun bZ => (some bZ)) else (none)) else (none))) = some r := by rw [if_pos rfl] at H; exact H
         clear H
         have H := H1
         clear H1
         replace H := Option.bind_eq_some_iff.mp H
         obtain ⟨cC,fV,H⟩ := H
         replace H : (if cC = true then (if dh = 0 then ((r08_SameSnap.f k2 bK bP bV cd ci au av aq ar an).bind fun bZ => (some bZ)) else (none)) else (none)) = some r := H
         have kj := zzk fV
         clear fV
         by_cases eO : cC = true
         ·
          subst eO
          have H1 : (if dh = 0 then ((r08_SameSnap.f k2 bK bP bV cd ci au av aq ar an).bind fun bZ => (some bZ)) else (none)) = some r := by rw [if_pos rfl] at H; exact H
          clear H
          have H := H1
          clear H1
          by_cases dW : dh = 0
          ·
           rw [if_pos dW] at H
           have nd : (dh == 0) = true := beq_iff_eq.mpr dW
           have nf : (dh != 0) = false := bne_eq_false_iff_eq.mpr dW
           clear dW
           replace H := Option.bind_eq_some_iff.mp H
           obtain ⟨bZ,fW,H⟩ := H
           replace H : (some bZ) = some r := H
           have kk := zzk fW
           clear fW
           obtain rfl := zzu H
           have ng := bS.out
           have nh := ay.out
           have kl : wr.cell? ⟨ab,0,none⟩ = some (.int .i64 am) := (zi aa.out 0).trans rfl
           have km : wr.cell? ⟨ab,1,none⟩ = some (.int .i64 al) := (zi aa.out 1).trans rfl
           have ko : wr.cell? ⟨ab,2,none⟩ = some (.int .i64 ak) := (zi aa.out 2).trans rfl
           have kp : wr.cell? ⟨ab,3,none⟩ = some (.int .i64 aj) := (zi aa.out 3).trans rfl
           have kr : wr.cell? ⟨ab,4,none⟩ = some (aQ) := (zi aa.out 4).trans rfl
           have kt : wr.cell? ⟨ab,5,none⟩ = some (aR) := (zi aa.out 5).trans rfl
           have ku : wr.cell? ⟨ab,6,none⟩ = some (.int .i64 ai) := (zi aa.out 6).trans rfl
           have kv : wr.cell? ⟨ab,7,none⟩ = some (.string ae) := (zi aa.out 7).trans rfl
           have kw : wr.cell? ⟨ab,8,none⟩ = some (.bool false) := (zi aa.out 8).trans rfl
           have ky := zm aa.out 0
           have kz := zm aa.out 1
           have kA := zm aa.out 2
           have kB := zm aa.out 3
           have kC := zm aa.out 4
           have kD := zm aa.out 5
           have kE := zm aa.out 6
           have kF := zm aa.out 7
           have kG := zm aa.out 8
           obtain ⟨cQ,cR,eo120⟩ := zz HO_631004.out
           subst eo120
           obtain ⟨cS,cT,eo121⟩ := zz HO_631005.out
           subst eo121
           go_wp2_with (first | ((with_reducible refine zza (f := 24) rfl ?_); refine zzd (some 170) rfl rfl Try.func24 (by kernel_rfl) rfl #[.agg #[.int .i64 am,.int .i64 al,.int .i64 ak,.int .i64 aj,.slice cQ ah.length cR,.slice cS ag.length cT,.int .i64 ai,.string ae,.bool false]] rfl (by (try simp only [zd,ze,zf]); first | done | rfl | (simp only [zg,zh]; rfl)) ?_; (with_reducible refine (chunk_Whole.calls k2 am al ak aj _ _ ah _ _ ag ai ae false bK bP bV cd ci dh _ ?side1 ?side2 ?side3 ?side4 kh.out).mono ?_); (case side1 => repeat (first | exact (zw HO_631004.out).2.2 | (with_reducible refine Zk ?_ _) | (with_reducible refine Zj ?_ _) | (with_reducible refine Zl ?_))); (case side2 => exact (zw HO_631004.out).2.1); (case side3 => repeat (first | exact (zw HO_631005.out).2.2 | (with_reducible refine Zk ?_ _) | (with_reducible refine Zj ?_ _) | (with_reducible refine Zl ?_))); (case side4 => exact (zw HO_631005.out).2.1); rintro e nM ⟨nN,nO,rfl,ho0,ho1,hb⟩; refine ⟨_,rfl,?_⟩; have az := zzk (zx (Zc (Zc (Kd.R_old (by (with_reducible repeat (first | apply zu | apply zt | apply zs)); exact HO_631004.out) hb) (Zd ho0)) (Zd ho1)) (fun _ h_ => h_.1)); have aA := zzk (zx (Zc (Zc (Kd.R_old (by (with_reducible repeat (first | apply zu | apply zt | apply zs)); exact HO_631005.out) hb) (Zd ho0)) (Zd ho1)) (fun _ h_ => h_.1)); have aB := zzk (Za (Zb (Zb ho0 (Kd.R_lt (by (with_reducible repeat (first | apply zu | apply zt | apply zs)); exact HO_631004.out))) (Kd.R_lt (by (with_reducible repeat (first | apply zu | apply zt | apply zs)); exact HO_631005.out))) (Zr (by repeat (first | (with_reducible first | exact HB.out | apply Zq | apply Zp | apply Zo | refine Zn ?_ ax.out | refine Zn ?_ aF.out) | exact HB.out)))); have aC := zzk (Za (Zb (Zb ho1 (Kd.R_lt (by (with_reducible repeat (first | apply zu | apply zt | apply zs)); exact HO_631004.out))) (Kd.R_lt (by (with_reducible repeat (first | apply zu | apply zt | apply zs)); exact HO_631005.out))) (Zr (by repeat (first | (with_reducible first | exact HB.out | apply Zq | apply Zp | apply Zo | refine Zn ?_ ax.out | refine Zn ?_ aF.out) | exact HB.out)))); have aE := zzk (zo (g := ao) (o := .cells #[.int .i64 au,.int .i64 av,.slice aG aq.length aH,.slice aI ar.length aJ,.string an] 26 (0,0)) (by (with_reducible repeat (first | refine zj ?_ _ | refine zl ?_ | refine zk ?_ _)); exact ac.out) hb); have aT := zzk (zo (g := ab) (o := .cells #[.int .i64 am,.int .i64 al,.int .i64 ak,.int .i64 aj,.slice cQ ah.length cR,.slice cS ag.length cT,.int .i64 ai,.string ae,.bool false] 34 (0,0)) (by (with_reducible repeat (first | refine zj ?_ _ | refine zl ?_ | refine zk ?_ _)); exact aa.out) hb); have aU := zzk (Zs (by repeat (first | (with_reducible first | exact HB.out | apply Zq | apply Zp | apply Zo | refine Zn ?_ ax.out | refine Zn ?_ aF.out) | exact HB.out)) hb); clear HO_631004; clear HO_631005; clear ac; clear aa; clear HB; have HO_631004 := az; have HO_631005 := aA; have bL := aB; have bM := aC; have ac := aE; have aa := aT; have HB := aU; clear az aA aB aC aE aT aU; (try clear hb); (try clear hb2); (try clear hk); (try clear hi); (try clear ho0); (try clear ho1)) | ((with_reducible refine Zy (N := 22) rfl ?_); (try (refine Zz (by rfl) ?_; dsimp only)); refine zzc ?hg (N := 22) ?hd (cs := #[.int .i64 0,.int .i64 0,.slice none 0 0,.slice none 0 0,.string (⟨#[]⟩ : ByteArray)]) (t := 26) ?hr ?_; (case hd => rfl); (case hg => rfl); (case hr => first | (go_simp; done) | (go_simp; rfl)); intro aL hg dX hbox hb; have az := zzk (zv (by (with_reducible repeat (first | apply zu | apply zt | apply zs)); exact HO_631004.out) hb); have aA := zzk (zv (by (with_reducible repeat (first | apply zu | apply zt | apply zs)); exact HO_631005.out) hb); have aB := zzk (zv (by (with_reducible repeat (first | apply zu | apply zt | apply zs)); exact bL.out) hb); have aC := zzk (zv (by (with_reducible repeat (first | apply zu | apply zt | apply zs)); exact bM.out) hb); have aE := zzk (zo (g := ao) (o := .cells #[.int .i64 au,.int .i64 av,.slice aG aq.length aH,.slice aI ar.length aJ,.string an] 26 (0,0)) (by (with_reducible repeat (first | refine zj ?_ _ | refine zl ?_ | refine zk ?_ _)); exact ac.out) hb); have aT := zzk (zo (g := ab) (o := .cells #[.int .i64 am,.int .i64 al,.int .i64 ak,.int .i64 aj,.slice cQ ah.length cR,.slice cS ag.length cT,.int .i64 ai,.string ae,.bool false] 34 (0,0)) (by (with_reducible repeat (first | refine zj ?_ _ | refine zl ?_ | refine zk ?_ _)); exact aa.out) hb); have aU := zzk (Zs (by repeat (first | (with_reducible first | exact HB.out | apply Zq | apply Zp | apply Zo | refine Zn ?_ ax.out | refine Zn ?_ aF.out) | exact HB.out)) hb); have bs := zzk (hbox); have cj := zzk ((by rw [hg]; exact (Zr (by repeat (first | (with_reducible first | exact HB.out | apply Zq | apply Zp | apply Zo | refine Zn ?_ ax.out | refine Zn ?_ aF.out) | exact HB.out))) : w.heap.size ≤ aL)); have cN := zzk ((by rw [hg]; exact (Zr (by repeat (first | (with_reducible first | exact HB.out | apply Zq | apply Zp | apply Zo | refine Zn ?_ ax.out | refine Zn ?_ aF.out) | exact HB.out))) : w.heap.size ≤ aL)); have co := zzk ((by rw [hg]; exact Nat.ne_of_lt (zq (g := ao) (o := .cells #[.int .i64 au,.int .i64 av,.slice aG aq.length aH,.slice aI ar.length aJ,.string an] 26 (0,0)) (by (with_reducible repeat (first | refine zj ?_ _ | refine zl ?_ | refine zk ?_ _)); exact ac.out)) : ao ≠ aL)); have cp := zzk ((by rw [hg]; exact Nat.ne_of_gt (zq (g := ao) (o := .cells #[.int .i64 au,.int .i64 av,.slice aG aq.length aH,.slice aI ar.length aJ,.string an] 26 (0,0)) (by (with_reducible repeat (first | refine zj ?_ _ | refine zl ?_ | refine zk ?_ _)); exact ac.out)) : aL ≠ ao)); have cK := zzk ((by rw [hg]; exact Nat.ne_of_lt (zq (g := ab) (o := .cells #[.int .i64 am,.int .i64 al,.int .i64 ak,.int .i64 aj,.slice cQ ah.length cR,.slice cS ag.length cT,.int .i64 ai,.string ae,.bool false] 34 (0,0)) (by (with_reducible repeat (first | refine zj ?_ _ | refine zl ?_ | refine zk ?_ _)); exact aa.out)) : ab ≠ aL)); have cL := zzk ((by rw [hg]; exact Nat.ne_of_gt (zq (g := ab) (o := .cells #[.int .i64 am,.int .i64 al,.int .i64 ak,.int .i64 aj,.slice cQ ah.length cR,.slice cS ag.length cT,.int .i64 ai,.string ae,.bool false] 34 (0,0)) (by (with_reducible repeat (first | refine zj ?_ _ | refine zl ?_ | refine zk ?_ _)); exact aa.out)) : aL ≠ ab)); clear HO_631004; clear HO_631005; clear bL; clear bM; clear ac; clear aa; clear HB; have HO_631004 := az; have HO_631005 := aA; have bL := aB; have bM := aC; have ac := aE; have aa := aT; have HB := aU; have aO := bs; have nI := cj; have dP := cN; have ck := co; have fo := cp; have cl := cK; have fp := cL; clear az aA aB aC aE aT aU bs cj cN co cp cK cL; clear hb hbox hg; have ni := fo.out; have nj := ck.out; have nk := fp.out; have nl := cl.out; have kH : dX.cell? ⟨aL,0,none⟩ = some (.int .i64 0) := (zi aO.out 0).trans rfl; have kI : dX.cell? ⟨aL,1,none⟩ = some (.int .i64 0) := (zi aO.out 1).trans rfl; have kJ : dX.cell? ⟨aL,2,none⟩ = some (.slice none 0 0) := (zi aO.out 2).trans rfl; have kK : dX.cell? ⟨aL,3,none⟩ = some (.slice none 0 0) := (zi aO.out 3).trans rfl; have kL : dX.cell? ⟨aL,4,none⟩ = some (.string (⟨#[]⟩ : ByteArray)) := (zi aO.out 4).trans rfl; have kM := zm aO.out 0; have kN := zm aO.out 1; have kO := zm aO.out 2; have kP := zm aO.out 3; have kQ := zm aO.out 4; obtain ⟨cy,cz,eo127⟩ := zz bL.out; subst eo127; obtain ⟨cH,cI,eo128⟩ := zz bM.out; subst eo128) | ((with_reducible refine zza (f := 18) rfl ?_); refine zzd (some 173) rfl rfl Try.func18 (by kernel_rfl) rfl #[] rfl (by (try simp only [zd,ze,zf]); first | done | rfl | (simp only [zg,zh]; rfl)) ?_; (with_reducible refine (L_begins.calls k2  true _ ki.out).mono ?_); rintro e nP ⟨rfl,hb⟩; refine ⟨_,rfl,?_⟩; have az := zzk (zv (by (with_reducible repeat (first | apply zu | apply zt | apply zs)); exact (zx (zr (p := ⟨aL,4,none⟩) (zr (p := ⟨aL,3,none⟩) (zr (p := ⟨aL,2,none⟩) (zr (p := ⟨aL,1,none⟩) (zr (p := ⟨aL,0,none⟩) (zy HO_631004.out aO.out (by decide)) (fun _ hk => hk.2) (.int .i64 bK)) (fun _ hk => hk.2) (.int .i64 bP)) (fun _ hk => hk.2) (.slice cy bV.length cz)) (fun _ hk => hk.2) (.slice cH cd.length cI)) (fun _ hk => hk.2) (.string ci)) (fun _ h_ => h_.1))) hb); have aA := zzk (zv (by (with_reducible repeat (first | apply zu | apply zt | apply zs)); exact (zx (zr (p := ⟨aL,4,none⟩) (zr (p := ⟨aL,3,none⟩) (zr (p := ⟨aL,2,none⟩) (zr (p := ⟨aL,1,none⟩) (zr (p := ⟨aL,0,none⟩) (zy HO_631005.out aO.out (by decide)) (fun _ hk => hk.2) (.int .i64 bK)) (fun _ hk => hk.2) (.int .i64 bP)) (fun _ hk => hk.2) (.slice cy bV.length cz)) (fun _ hk => hk.2) (.slice cH cd.length cI)) (fun _ hk => hk.2) (.string ci)) (fun _ h_ => h_.1))) hb); have aB := zzk (zv (by (with_reducible repeat (first | apply zu | apply zt | apply zs)); exact (zx (zr (p := ⟨aL,4,none⟩) (zr (p := ⟨aL,3,none⟩) (zr (p := ⟨aL,2,none⟩) (zr (p := ⟨aL,1,none⟩) (zr (p := ⟨aL,0,none⟩) (zy bL.out aO.out (by decide)) (fun _ hk => hk.2) (.int .i64 bK)) (fun _ hk => hk.2) (.int .i64 bP)) (fun _ hk => hk.2) (.slice cy bV.length cz)) (fun _ hk => hk.2) (.slice cH cd.length cI)) (fun _ hk => hk.2) (.string ci)) (fun _ h_ => h_.1))) hb); have aC := zzk (zv (by (with_reducible repeat (first | apply zu | apply zt | apply zs)); exact (zx (zr (p := ⟨aL,4,none⟩) (zr (p := ⟨aL,3,none⟩) (zr (p := ⟨aL,2,none⟩) (zr (p := ⟨aL,1,none⟩) (zr (p := ⟨aL,0,none⟩) (zy bM.out aO.out (by decide)) (fun _ hk => hk.2) (.int .i64 bK)) (fun _ hk => hk.2) (.int .i64 bP)) (fun _ hk => hk.2) (.slice cy bV.length cz)) (fun _ hk => hk.2) (.slice cH cd.length cI)) (fun _ hk => hk.2) (.string ci)) (fun _ h_ => h_.1))) hb); have aE := zzk (zo (g := ao) (o := .cells #[.int .i64 au,.int .i64 av,.slice aG aq.length aH,.slice aI ar.length aJ,.string an] 26 (0,0)) (by (with_reducible repeat (first | refine zj ?_ _ | refine zl ?_ | refine zk ?_ _)); refine zn ?_ ck.out _; (with_reducible repeat (first | refine zj ?_ _ | refine zl ?_ | refine zk ?_ _)); refine zn ?_ ck.out _; (with_reducible repeat (first | refine zj ?_ _ | refine zl ?_ | refine zk ?_ _)); refine zn ?_ ck.out _; (with_reducible repeat (first | refine zj ?_ _ | refine zl ?_ | refine zk ?_ _)); refine zn ?_ ck.out _; (with_reducible repeat (first | refine zj ?_ _ | refine zl ?_ | refine zk ?_ _)); refine zn ?_ ck.out _; (with_reducible repeat (first | refine zj ?_ _ | refine zl ?_ | refine zk ?_ _)); exact ac.out) hb); have aT := zzk (zo (g := ab) (o := .cells #[.int .i64 am,.int .i64 al,.int .i64 ak,.int .i64 aj,.slice cQ ah.length cR,.slice cS ag.length cT,.int .i64 ai,.string ae,.bool false] 34 (0,0)) (by (with_reducible repeat (first | refine zj ?_ _ | refine zl ?_ | refine zk ?_ _)); refine zn ?_ cl.out _; (with_reducible repeat (first | refine zj ?_ _ | refine zl ?_ | refine zk ?_ _)); refine zn ?_ cl.out _; (with_reducible repeat (first | refine zj ?_ _ | refine zl ?_ | refine zk ?_ _)); refine zn ?_ cl.out _; (with_reducible repeat (first | refine zj ?_ _ | refine zl ?_ | refine zk ?_ _)); refine zn ?_ cl.out _; (with_reducible repeat (first | refine zj ?_ _ | refine zl ?_ | refine zk ?_ _)); refine zn ?_ cl.out _; (with_reducible repeat (first | refine zj ?_ _ | refine zl ?_ | refine zk ?_ _)); exact aa.out) hb); have aU := zzk (zo (g := aL) (o := .cells #[.int .i64 bK,.int .i64 bP,.slice cy bV.length cz,.slice cH cd.length cI,.string ci] 26 (0,0)) (by (with_reducible repeat (first | refine zj ?_ _ | refine zl ?_ | refine zk ?_ _)); refine zp (cs := #[.int .i64 bK,.int .i64 bP,.slice cy bV.length cz,.slice cH cd.length cI,.string (⟨#[]⟩ : ByteArray)]) ?_ 4 _ rfl; (with_reducible repeat (first | refine zj ?_ _ | refine zl ?_ | refine zk ?_ _)); refine zp (cs := #[.int .i64 bK,.int .i64 bP,.slice cy bV.length cz,.slice none 0 0,.string (⟨#[]⟩ : ByteArray)]) ?_ 3 _ rfl; (with_reducible repeat (first | refine zj ?_ _ | refine zl ?_ | refine zk ?_ _)); refine zp (cs := #[.int .i64 bK,.int .i64 bP,.slice none 0 0,.slice none 0 0,.string (⟨#[]⟩ : ByteArray)]) ?_ 2 _ rfl; (with_reducible repeat (first | refine zj ?_ _ | refine zl ?_ | refine zk ?_ _)); refine zp (cs := #[.int .i64 bK,.int .i64 0,.slice none 0 0,.slice none 0 0,.string (⟨#[]⟩ : ByteArray)]) ?_ 1 _ rfl; (with_reducible repeat (first | refine zj ?_ _ | refine zl ?_ | refine zk ?_ _)); refine zp (cs := #[.int .i64 0,.int .i64 0,.slice none 0 0,.slice none 0 0,.string (⟨#[]⟩ : ByteArray)]) ?_ 0 _ rfl; (with_reducible repeat (first | refine zj ?_ _ | refine zl ?_ | refine zk ?_ _)); exact aO.out) hb); have bs := zzk (Zs (by repeat (first | (with_reducible first | exact HB.out | apply Zq | apply Zp | apply Zo | refine Zn ?_ ax.out | refine Zn ?_ aF.out | refine Zn ?_ dP.out) | exact HB.out)) hb); clear HO_631004; clear HO_631005; clear bL; clear bM; clear ac; clear aa; clear aO; clear HB; have HO_631004 := az; have HO_631005 := aA; have bL := aB; have bM := aC; have ac := aE; have aa := aT; have aO := aU; have HB := bs; clear az aA aB aC aE aT aU bs; (try clear hb); (try clear hb2); (try clear hk); (try clear hi)) | (go_at_call 26; (with_reducible refine (L_takes.calls k2  true _ kj.out).mono ?_); rintro e db ⟨rfl,hb⟩; have az := zzk (zv (by (with_reducible repeat (first | apply zu | apply zt | apply zs)); exact HO_631004.out) hb); have aA := zzk (zv (by (with_reducible repeat (first | apply zu | apply zt | apply zs)); exact HO_631005.out) hb); have aB := zzk (zv (by (with_reducible repeat (first | apply zu | apply zt | apply zs)); exact bL.out) hb); have aC := zzk (zv (by (with_reducible repeat (first | apply zu | apply zt | apply zs)); exact bM.out) hb); have aE := zzk (zo (g := ao) (o := .cells #[.int .i64 au,.int .i64 av,.slice aG aq.length aH,.slice aI ar.length aJ,.string an] 26 (0,0)) (by (with_reducible repeat (first | refine zj ?_ _ | refine zl ?_ | refine zk ?_ _)); exact ac.out) hb); have aT := zzk (zo (g := ab) (o := .cells #[.int .i64 am,.int .i64 al,.int .i64 ak,.int .i64 aj,.slice cQ ah.length cR,.slice cS ag.length cT,.int .i64 ai,.string ae,.bool false] 34 (0,0)) (by (with_reducible repeat (first | refine zj ?_ _ | refine zl ?_ | refine zk ?_ _)); exact aa.out) hb); have aU := zzk (zo (g := aL) (o := .cells #[.int .i64 bK,.int .i64 bP,.slice cy bV.length cz,.slice cH cd.length cI,.string ci] 26 (0,0)) (by (with_reducible repeat (first | refine zj ?_ _ | refine zl ?_ | refine zk ?_ _)); exact aO.out) hb); have bs := zzk (Zs (by repeat (first | (with_reducible first | exact HB.out | apply Zq | apply Zp | apply Zo | refine Zn ?_ ax.out | refine Zn ?_ aF.out | refine Zn ?_ dP.out) | exact HB.out)) hb); clear HO_631004; clear HO_631005; clear bL; clear bM; clear ac; clear aa; clear aO; clear HB; have HO_631004 := az; have HO_631005 := aA; have bL := aB; have bM := aC; have ac := aE; have aa := aT; have aO := aU; have HB := bs; clear az aA aB aC aE aT aU bs; (try clear hb); (try clear hb2); (try clear hk); (try clear hi); have kR : db.cell? ⟨aL,0,none⟩ = some (.int .i64 bK) := (zi aO.out 0).trans rfl; have kS : db.cell? ⟨aL,1,none⟩ = some (.int .i64 bP) := (zi aO.out 1).trans rfl; have kT : db.cell? ⟨aL,2,none⟩ = some (.slice cy bV.length cz) := (zi aO.out 2).trans rfl; have kU : db.cell? ⟨aL,3,none⟩ = some (.slice cH cd.length cI) := (zi aO.out 3).trans rfl; have kV : db.cell? ⟨aL,4,none⟩ = some (.string ci) := (zi aO.out 4).trans rfl; have kW := zm aO.out 0; have kX := zm aO.out 1; have kY := zm aO.out 2; have kZ := zm aO.out 3; have la := zm aO.out 4; have lb : db.cell? ⟨ao,0,none⟩ = some (.int .i64 au) := (zi ac.out 0).trans rfl; have lc : db.cell? ⟨ao,1,none⟩ = some (.int .i64 av) := (zi ac.out 1).trans rfl; have ld : db.cell? ⟨ao,2,none⟩ = some (.slice aG aq.length aH) := (zi ac.out 2).trans rfl; have lf : db.cell? ⟨ao,3,none⟩ = some (.slice aI ar.length aJ) := (zi ac.out 3).trans rfl; have lg : db.cell? ⟨ao,4,none⟩ = some (.string an) := (zi ac.out 4).trans rfl; have lh := zm ac.out 0; have li := zm ac.out 1; have lj := zm ac.out 2; have lk := zm ac.out 3; have ll := zm ac.out 4) | (go_at_call 19; (with_reducible refine (r08_SameSnap.calls k2 bK bP _ _ bV _ _ cd ci au av _ _ aq _ _ ar an bZ _ ?side1 ?side2 ?side3 ?side4 ?side5 ?side6 ?side7 ?side8 kk.out).mono ?_); (case side1 => repeat (first | exact (zw bL.out).2.2 | (with_reducible refine Zk ?_ _) | (with_reducible refine Zj ?_ _) | (with_reducible refine Zl ?_))); (case side2 => exact (zw bL.out).2.1); (case side3 => repeat (first | exact (zw bM.out).2.2 | (with_reducible refine Zk ?_ _) | (with_reducible refine Zj ?_ _) | (with_reducible refine Zl ?_))); (case side4 => exact (zw bM.out).2.1); (case side5 => repeat (first | exact (Zm dc.out HB.out) | (with_reducible refine Zk ?_ _) | (with_reducible refine Zj ?_ _) | (with_reducible refine Zl ?_))); (case side6 => exact dd.out); (case side7 => repeat (first | exact (Zm de.out HB.out) | (with_reducible refine Zk ?_ _) | (with_reducible refine Zj ?_ _) | (with_reducible refine Zl ?_))); (case side8 => exact df.out); rintro e nQ ⟨rfl,hb⟩; have az := zzk (zv (by (with_reducible repeat (first | apply zu | apply zt | apply zs)); exact HO_631004.out) hb); have aA := zzk (zv (by (with_reducible repeat (first | apply zu | apply zt | apply zs)); exact HO_631005.out) hb); have aB := zzk (zv (by (with_reducible repeat (first | apply zu | apply zt | apply zs)); exact bL.out) hb); have aC := zzk (zv (by (with_reducible repeat (first | apply zu | apply zt | apply zs)); exact bM.out) hb); have aE := zzk (zo (g := ao) (o := .cells #[.int .i64 au,.int .i64 av,.slice aG aq.length aH,.slice aI ar.length aJ,.string an] 26 (0,0)) (by (with_reducible repeat (first | refine zj ?_ _ | refine zl ?_ | refine zk ?_ _)); exact ac.out) hb); have aT := zzk (zo (g := ab) (o := .cells #[.int .i64 am,.int .i64 al,.int .i64 ak,.int .i64 aj,.slice cQ ah.length cR,.slice cS ag.length cT,.int .i64 ai,.string ae,.bool false] 34 (0,0)) (by (with_reducible repeat (first | refine zj ?_ _ | refine zl ?_ | refine zk ?_ _)); exact aa.out) hb); have aU := zzk (zo (g := aL) (o := .cells #[.int .i64 bK,.int .i64 bP,.slice cy bV.length cz,.slice cH cd.length cI,.string ci] 26 (0,0)) (by (with_reducible repeat (first | refine zj ?_ _ | refine zl ?_ | refine zk ?_ _)); exact aO.out) hb); have bs := zzk (Zs (by repeat (first | (with_reducible first | exact HB.out | apply Zq | apply Zp | apply Zo | refine Zn ?_ ax.out | refine Zn ?_ aF.out | refine Zn ?_ dP.out) | exact HB.out)) hb); clear HO_631004; clear HO_631005; clear bL; clear bM; clear ac; clear aa; clear aO; clear HB; have HO_631004 := az; have HO_631005 := aA; have bL := aB; have bM := aC; have ac := aE; have aa := aT; have aO := aU; have HB := bs; clear az aA aB aC aE aT aU bs; (try clear hb); (try clear hb2); (try clear hk); (try clear hi)))
           go_ret
           exact ⟨by first | rfl | (simp [zzl,zzm] <;> rfl) | (simp [*,zzl,zzm] <;> rfl),by repeat (first | (with_reducible first | exact HB.out | apply Zq | apply Zp | apply Zo | refine Zn ?_ ax.out | refine Zn ?_ aF.out | refine Zn ?_ dP.out) | exact HB.out)⟩
          ·
           rw [if_neg dW] at H
           exact absurd H (by simp)
         ·
          replace eO := Bool.eq_false_iff.mpr eO
          subst eO
          have H1 : (none) = some r := by rw [if_neg (show ¬ (false = true) by decide)] at H; exact H
          clear H
          have H := H1
          clear H1
          exact absurd H (by simp)
        ·
         replace eN := Bool.eq_false_iff.mpr eN
         subst eN
         have H1 : (none) = some r := by rw [if_neg (show ¬ (false = true) by decide)] at H; exact H
         clear H
         have H := H1
         clear H1
         exact absurd H (by simp)
    ·
     rw [if_neg dM] at H
     have fI : (cv == 0) = false := beq_eq_false_iff_ne.mpr dM
     have fJ : (cv != 0) = true := bne_iff_ne.mpr dM
     replace H := Option.bind_eq_some_iff.mp H
     obtain ⟨dl,fX,H⟩ := H
     replace H : (if dl = true then ((L_takes.f cJ).bind fun cA => (if cA = true then (some (cv == 150)) else (none))) else (none)) = some r := H
     have lm := zzk fX
     clear fX
     by_cases eP : dl = true
     ·
      subst eP
      have H1 : ((L_takes.f cJ).bind fun cA => (if cA = true then (some (cv == 150)) else (none))) = some r := by rw [if_pos rfl] at H; exact H
      clear H
      have H := H1
      clear H1
      replace H := Option.bind_eq_some_iff.mp H
      obtain ⟨cA,fY,H⟩ := H
      replace H : (if cA = true then (some (cv == 150)) else (none)) = some r := H
      have ln := zzk fY
      clear fY
      by_cases eQ : cA = true
      ·
       subst eQ
       have H1 : (some (cv == 150)) = some r := by rw [if_pos rfl] at H; exact H
       clear H
       have H := H1
       clear H1
       obtain rfl := zzu H
       have lo : wc.cell? ⟨ao,0,none⟩ = some (.int .i64 au) := (zi ac.out 0).trans rfl
       have lp : wc.cell? ⟨ao,1,none⟩ = some (.int .i64 av) := (zi ac.out 1).trans rfl
       have lq : wc.cell? ⟨ao,2,none⟩ = some (.slice aG aq.length aH) := (zi ac.out 2).trans rfl
       have lr : wc.cell? ⟨ao,3,none⟩ = some (.slice aI ar.length aJ) := (zi ac.out 3).trans rfl
       have ls : wc.cell? ⟨ao,4,none⟩ = some (.string an) := (zi ac.out 4).trans rfl
       have lu := zm ac.out 0
       have lv := zm ac.out 1
       have lw := zm ac.out 2
       have lx := zm ac.out 3
       have ly := zm ac.out 4
       go_wp2_with (first | ((with_reducible refine zza (f := 14) rfl ?_); refine zzd (some 47) rfl rfl Try.func14 (by kernel_rfl) rfl #[.int .i64 a0,.int .i64 a1,.agg #[.int .i64 au,.int .i64 av,.slice aG aq.length aH,.slice aI ar.length aJ,.string an]] rfl (by (try simp only [zd,ze,zf]); first | done | rfl | (simp only [zg,zh]; rfl)) ?_; (with_reducible refine (chunk_Begin.calls cJ a0 a1 au av _ _ aq _ _ ar an br bv bD bH bI bR cm cD cX cv _ ?side1 ?side2 ?side3 ?side4 iO.out).mono ?_); (case side1 => repeat (first | exact (Zm dc.out HB.out) | (with_reducible refine Zk ?_ _) | (with_reducible refine Zj ?_ _) | (with_reducible refine Zl ?_))); (case side2 => exact dd.out); (case side3 => repeat (first | exact (Zm de.out HB.out) | (with_reducible refine Zk ?_ _) | (with_reducible refine Zj ?_ _) | (with_reducible refine Zl ?_))); (case side4 => exact df.out); rintro e nR ⟨jb,jc,rfl,ho0,ho1,hb⟩; refine ⟨_,rfl,?_⟩; have az := zzk (Za ho0 (Zr (by repeat (first | (with_reducible first | exact HB.out | apply Zq | apply Zp | apply Zo | refine Zn ?_ ax.out) | exact HB.out)))); have aA := zzk (Za ho1 (Zr (by repeat (first | (with_reducible first | exact HB.out | apply Zq | apply Zp | apply Zo | refine Zn ?_ ax.out) | exact HB.out)))); have aB := zzk (zo (g := ao) (o := .cells #[.int .i64 au,.int .i64 av,.slice aG aq.length aH,.slice aI ar.length aJ,.string an] 26 (0,0)) (by (with_reducible repeat (first | refine zj ?_ _ | refine zl ?_ | refine zk ?_ _)); exact ac.out) hb); have aC := zzk (Zs (by repeat (first | (with_reducible first | exact HB.out | apply Zq | apply Zp | apply Zo | refine Zn ?_ ax.out) | exact HB.out)) hb); clear ac; clear HB; have bF := az; have bG := aA; have ac := aB; have HB := aC; clear az aA aB aC; (try clear hb); (try clear hb2); (try clear hk); (try clear hi); (try clear ho0); (try clear ho1)) | ((with_reducible refine Zy (N := 11) rfl ?_); (try (refine Zz (by rfl) ?_; dsimp only)); refine zzc ?hg (N := 11) ?hd (cs := #[.int .i64 0,.int .i64 0,.int .i64 0,.int .i64 0,.slice none 0 0,.slice none 0 0,.int .i64 0,.string (⟨#[]⟩ : ByteArray),.bool false]) (t := 34) ?hr ?_; (case hd => rfl); (case hg => rfl); (case hr => first | (go_simp; done) | (go_simp; rfl)); intro ab hg di hbox hb; have az := zzk (zv (by (with_reducible repeat (first | apply zu | apply zt | apply zs)); exact bF.out) hb); have aA := zzk (zv (by (with_reducible repeat (first | apply zu | apply zt | apply zs)); exact bG.out) hb); have aB := zzk (zo (g := ao) (o := .cells #[.int .i64 au,.int .i64 av,.slice aG aq.length aH,.slice aI ar.length aJ,.string an] 26 (0,0)) (by (with_reducible repeat (first | refine zj ?_ _ | refine zl ?_ | refine zk ?_ _)); exact ac.out) hb); have aC := zzk (Zs (by repeat (first | (with_reducible first | exact HB.out | apply Zq | apply Zp | apply Zo | refine Zn ?_ ax.out) | exact HB.out)) hb); have aE := zzk (hbox); have aT := zzk ((by rw [hg]; exact (Zr (by repeat (first | (with_reducible first | exact HB.out | apply Zq | apply Zp | apply Zo | refine Zn ?_ ax.out) | exact HB.out))) : w.heap.size ≤ ab)); have aU := zzk ((by rw [hg]; exact (Zr (by repeat (first | (with_reducible first | exact HB.out | apply Zq | apply Zp | apply Zo | refine Zn ?_ ax.out) | exact HB.out))) : w.heap.size ≤ ab)); have bs := zzk ((by rw [hg]; exact Nat.ne_of_lt (zq (g := ao) (o := .cells #[.int .i64 au,.int .i64 av,.slice aG aq.length aH,.slice aI ar.length aJ,.string an] 26 (0,0)) (by (with_reducible repeat (first | refine zj ?_ _ | refine zl ?_ | refine zk ?_ _)); exact ac.out)) : ao ≠ ab)); have cj := zzk ((by rw [hg]; exact Nat.ne_of_gt (zq (g := ao) (o := .cells #[.int .i64 au,.int .i64 av,.slice aG aq.length aH,.slice aI ar.length aJ,.string an] 26 (0,0)) (by (with_reducible repeat (first | refine zj ?_ _ | refine zl ?_ | refine zk ?_ _)); exact ac.out)) : ab ≠ ao)); clear bF; clear bG; clear ac; clear HB; have bF := az; have bG := aA; have ac := aB; have HB := aC; have aa := aE; have ix := aT; have aF := aU; have ay := bs; have bS := cj; clear az aA aB aC aE aT aU bs cj; clear hb hbox hg; have nm := bS.out; have nn := ay.out; have lz : di.cell? ⟨ab,0,none⟩ = some (.int .i64 0) := (zi aa.out 0).trans rfl; have lA : di.cell? ⟨ab,1,none⟩ = some (.int .i64 0) := (zi aa.out 1).trans rfl; have lB : di.cell? ⟨ab,2,none⟩ = some (.int .i64 0) := (zi aa.out 2).trans rfl; have lC : di.cell? ⟨ab,3,none⟩ = some (.int .i64 0) := (zi aa.out 3).trans rfl; have lD : di.cell? ⟨ab,4,none⟩ = some (.slice none 0 0) := (zi aa.out 4).trans rfl; have lE : di.cell? ⟨ab,5,none⟩ = some (.slice none 0 0) := (zi aa.out 5).trans rfl; have lF : di.cell? ⟨ab,6,none⟩ = some (.int .i64 0) := (zi aa.out 6).trans rfl; have lG : di.cell? ⟨ab,7,none⟩ = some (.string (⟨#[]⟩ : ByteArray)) := (zi aa.out 7).trans rfl; have lH : di.cell? ⟨ab,8,none⟩ = some (.bool false) := (zi aa.out 8).trans rfl; have lI := zm aa.out 0; have lJ := zm aa.out 1; have lK := zm aa.out 2; have lL := zm aa.out 3; have lM := zm aa.out 4; have lN := zm aa.out 5; have lO := zm aa.out 6; have lP := zm aa.out 7; have lQ := zm aa.out 8; obtain ⟨cU,cV,eo143⟩ := zz bF.out; subst eo143; obtain ⟨dj,dk,eo144⟩ := zz bG.out; subst eo144) | ((with_reducible refine zza (f := 18) rfl ?_); refine zzd (some 52) rfl rfl Try.func18 (by kernel_rfl) rfl #[] rfl (by (try simp only [zd,ze,zf]); first | done | rfl | (simp only [zg,zh]; rfl)) ?_; (with_reducible refine (L_begins.calls cJ  true _ lm.out).mono ?_); rintro e nS ⟨rfl,hb⟩; refine ⟨_,rfl,?_⟩; have az := zzk (zv (by (with_reducible repeat (first | apply zu | apply zt | apply zs)); exact (zx (zr (p := ⟨ab,8,none⟩) (zr (p := ⟨ab,7,none⟩) (zr (p := ⟨ab,6,none⟩) (zr (p := ⟨ab,5,none⟩) (zr (p := ⟨ab,4,none⟩) (zr (p := ⟨ab,3,none⟩) (zr (p := ⟨ab,2,none⟩) (zr (p := ⟨ab,1,none⟩) (zr (p := ⟨ab,0,none⟩) (zy bF.out aa.out (by decide)) (fun _ hk => hk.2) (.int .i64 br)) (fun _ hk => hk.2) (.int .i64 bv)) (fun _ hk => hk.2) (.int .i64 bD)) (fun _ hk => hk.2) (.int .i64 bH)) (fun _ hk => hk.2) (.slice cU bI.length cV)) (fun _ hk => hk.2) (.slice dj bR.length dk)) (fun _ hk => hk.2) (.int .i64 cm)) (fun _ hk => hk.2) (.string cD)) (fun _ hk => hk.2) (.bool cX)) (fun _ h_ => h_.1))) hb); have aA := zzk (zv (by (with_reducible repeat (first | apply zu | apply zt | apply zs)); exact (zx (zr (p := ⟨ab,8,none⟩) (zr (p := ⟨ab,7,none⟩) (zr (p := ⟨ab,6,none⟩) (zr (p := ⟨ab,5,none⟩) (zr (p := ⟨ab,4,none⟩) (zr (p := ⟨ab,3,none⟩) (zr (p := ⟨ab,2,none⟩) (zr (p := ⟨ab,1,none⟩) (zr (p := ⟨ab,0,none⟩) (zy bG.out aa.out (by decide)) (fun _ hk => hk.2) (.int .i64 br)) (fun _ hk => hk.2) (.int .i64 bv)) (fun _ hk => hk.2) (.int .i64 bD)) (fun _ hk => hk.2) (.int .i64 bH)) (fun _ hk => hk.2) (.slice cU bI.length cV)) (fun _ hk => hk.2) (.slice dj bR.length dk)) (fun _ hk => hk.2) (.int .i64 cm)) (fun _ hk => hk.2) (.string cD)) (fun _ hk => hk.2) (.bool cX)) (fun _ h_ => h_.1))) hb); have aB := zzk (zo (g := ao) (o := .cells #[.int .i64 au,.int .i64 av,.slice aG aq.length aH,.slice aI ar.length aJ,.string an] 26 (0,0)) (by (with_reducible repeat (first | refine zj ?_ _ | refine zl ?_ | refine zk ?_ _)); refine zn ?_ ay.out _; (with_reducible repeat (first | refine zj ?_ _ | refine zl ?_ | refine zk ?_ _)); refine zn ?_ ay.out _; (with_reducible repeat (first | refine zj ?_ _ | refine zl ?_ | refine zk ?_ _)); refine zn ?_ ay.out _; (with_reducible repeat (first | refine zj ?_ _ | refine zl ?_ | refine zk ?_ _)); refine zn ?_ ay.out _; (with_reducible repeat (first | refine zj ?_ _ | refine zl ?_ | refine zk ?_ _)); refine zn ?_ ay.out _; (with_reducible repeat (first | refine zj ?_ _ | refine zl ?_ | refine zk ?_ _)); refine zn ?_ ay.out _; (with_reducible repeat (first | refine zj ?_ _ | refine zl ?_ | refine zk ?_ _)); refine zn ?_ ay.out _; (with_reducible repeat (first | refine zj ?_ _ | refine zl ?_ | refine zk ?_ _)); refine zn ?_ ay.out _; (with_reducible repeat (first | refine zj ?_ _ | refine zl ?_ | refine zk ?_ _)); refine zn ?_ ay.out _; (with_reducible repeat (first | refine zj ?_ _ | refine zl ?_ | refine zk ?_ _)); exact ac.out) hb); have aC := zzk (zo (g := ab) (o := .cells #[.int .i64 br,.int .i64 bv,.int .i64 bD,.int .i64 bH,.slice cU bI.length cV,.slice dj bR.length dk,.int .i64 cm,.string cD,.bool cX] 34 (0,0)) (by (with_reducible repeat (first | refine zj ?_ _ | refine zl ?_ | refine zk ?_ _)); refine zp (cs := #[.int .i64 br,.int .i64 bv,.int .i64 bD,.int .i64 bH,.slice cU bI.length cV,.slice dj bR.length dk,.int .i64 cm,.string cD,.bool false]) ?_ 8 _ rfl; (with_reducible repeat (first | refine zj ?_ _ | refine zl ?_ | refine zk ?_ _)); refine zp (cs := #[.int .i64 br,.int .i64 bv,.int .i64 bD,.int .i64 bH,.slice cU bI.length cV,.slice dj bR.length dk,.int .i64 cm,.string (⟨#[]⟩ : ByteArray),.bool false]) ?_ 7 _ rfl; (with_reducible repeat (first | refine zj ?_ _ | refine zl ?_ | refine zk ?_ _)); refine zp (cs := #[.int .i64 br,.int .i64 bv,.int .i64 bD,.int .i64 bH,.slice cU bI.length cV,.slice dj bR.length dk,.int .i64 0,.string (⟨#[]⟩ : ByteArray),.bool false]) ?_ 6 _ rfl; (with_reducible repeat (first | refine zj ?_ _ | refine zl ?_ | refine zk ?_ _)); refine zp (cs := #[.int .i64 br,.int .i64 bv,.int .i64 bD,.int .i64 bH,.slice cU bI.length cV,.slice none 0 0,.int .i64 0,.string (⟨#[]⟩ : ByteArray),.bool false]) ?_ 5 _ rfl; (with_reducible repeat (first | refine zj ?_ _ | refine zl ?_ | refine zk ?_ _)); refine zp (cs := #[.int .i64 br,.int .i64 bv,.int .i64 bD,.int .i64 bH,.slice none 0 0,.slice none 0 0,.int .i64 0,.string (⟨#[]⟩ : ByteArray),.bool false]) ?_ 4 _ rfl; (with_reducible repeat (first | refine zj ?_ _ | refine zl ?_ | refine zk ?_ _)); refine zp (cs := #[.int .i64 br,.int .i64 bv,.int .i64 bD,.int .i64 0,.slice none 0 0,.slice none 0 0,.int .i64 0,.string (⟨#[]⟩ : ByteArray),.bool false]) ?_ 3 _ rfl; (with_reducible repeat (first | refine zj ?_ _ | refine zl ?_ | refine zk ?_ _)); refine zp (cs := #[.int .i64 br,.int .i64 bv,.int .i64 0,.int .i64 0,.slice none 0 0,.slice none 0 0,.int .i64 0,.string (⟨#[]⟩ : ByteArray),.bool false]) ?_ 2 _ rfl; (with_reducible repeat (first | refine zj ?_ _ | refine zl ?_ | refine zk ?_ _)); refine zp (cs := #[.int .i64 br,.int .i64 0,.int .i64 0,.int .i64 0,.slice none 0 0,.slice none 0 0,.int .i64 0,.string (⟨#[]⟩ : ByteArray),.bool false]) ?_ 1 _ rfl; (with_reducible repeat (first | refine zj ?_ _ | refine zl ?_ | refine zk ?_ _)); refine zp (cs := #[.int .i64 0,.int .i64 0,.int .i64 0,.int .i64 0,.slice none 0 0,.slice none 0 0,.int .i64 0,.string (⟨#[]⟩ : ByteArray),.bool false]) ?_ 0 _ rfl; (with_reducible repeat (first | refine zj ?_ _ | refine zl ?_ | refine zk ?_ _)); exact aa.out) hb); have aE := zzk (Zs (by repeat (first | (with_reducible first | exact HB.out | apply Zq | apply Zp | apply Zo | refine Zn ?_ ax.out | refine Zn ?_ aF.out) | exact HB.out)) hb); clear bF; clear bG; clear ac; clear aa; clear HB; have bF := az; have bG := aA; have ac := aB; have aa := aC; have HB := aE; clear az aA aB aC aE; (try clear hb); (try clear hb2); (try clear hk); (try clear hi)) | (go_at_call 26; (with_reducible refine (L_takes.calls cJ  true _ ln.out).mono ?_); rintro e nT ⟨rfl,hb⟩; have az := zzk (zv (by (with_reducible repeat (first | apply zu | apply zt | apply zs)); exact bF.out) hb); have aA := zzk (zv (by (with_reducible repeat (first | apply zu | apply zt | apply zs)); exact bG.out) hb); have aB := zzk (zo (g := ao) (o := .cells #[.int .i64 au,.int .i64 av,.slice aG aq.length aH,.slice aI ar.length aJ,.string an] 26 (0,0)) (by (with_reducible repeat (first | refine zj ?_ _ | refine zl ?_ | refine zk ?_ _)); exact ac.out) hb); have aC := zzk (zo (g := ab) (o := .cells #[.int .i64 br,.int .i64 bv,.int .i64 bD,.int .i64 bH,.slice cU bI.length cV,.slice dj bR.length dk,.int .i64 cm,.string cD,.bool cX] 34 (0,0)) (by (with_reducible repeat (first | refine zj ?_ _ | refine zl ?_ | refine zk ?_ _)); exact aa.out) hb); have aE := zzk (Zs (by repeat (first | (with_reducible first | exact HB.out | apply Zq | apply Zp | apply Zo | refine Zn ?_ ax.out | refine Zn ?_ aF.out) | exact HB.out)) hb); clear bF; clear bG; clear ac; clear aa; clear HB; have bF := az; have bG := aA; have ac := aB; have aa := aC; have HB := aE; clear az aA aB aC aE; (try clear hb); (try clear hb2); (try clear hk); (try clear hi)))
       go_ret
       exact ⟨by first | rfl | (simp [zzl,zzm] <;> rfl) | (simp [*,zzl,zzm] <;> rfl),by repeat (first | (with_reducible first | exact HB.out | apply Zq | apply Zp | apply Zo | refine Zn ?_ ax.out | refine Zn ?_ aF.out) | exact HB.out)⟩
      ·
       replace eQ := Bool.eq_false_iff.mpr eQ
       subst eQ
       have H1 : (none) = some r := by rw [if_neg (show ¬ (false = true) by decide)] at H; exact H
       clear H
       have H := H1
       clear H1
       exact absurd H (by simp)
     ·
      replace eP := Bool.eq_false_iff.mpr eP
      subst eP
      have H1 : (none) = some r := by rw [if_neg (show ¬ (false = true) by decide)] at H; exact H
      clear H
      have H := H1
      clear H1
      exact absurd H (by simp)
end Go.Proofs.Ytpagkmdlmhdenaa.PAll
