/- Merged. -/
import Derived.Test.YtdcjnhoabbdanaaGreatDoorZ04
set_option linter.unusedSimpArgs false
set_option linter.unnecessarySimpa false
set_option linter.unusedVariables false
set_option maxRecDepth 100000
set_option maxHeartbeats 2000000
open Go.Proofs.Tryz

namespace Go.Proofs.YtdcjnhoabbdanaaGreatDoor
open Go.RowKit
def aE8 (c:UInt8):Bool:=decide ((97<=(c.toNat:Int)/\(c.toNat:Int)<=122)∨(65<=(c.toNat:Int)/\(c.toNat:Int)<=90))
def aK5 (c:UInt8):Bool:=decide (48<=(c.toNat:Int)/\(c.toNat:Int)<=57)
def aBv (c:UInt8):Bool:=aE8 c||aK5 c||decide ((c.toNat:Int)=95)
theorem aLa (c:UInt8) (w:World):Calls prog 172 #[.int .u8 (c.toNat:Int)] w fun e w'=>e = .returned (.bool (aE8 c))/\w=w':=by
 go_enter func172,ntmps172;go_wp2
 all_goals (go_ret;refine ⟨aA2 ?_,rfl⟩;unfold aE8;rw [Bool.eq_iff_iff];simp) <;> omega
theorem aHc (c:UInt8) (w:World):Calls prog 186 #[.int .u8 (c.toNat:Int)] w fun e w'=>e = .returned (.bool (aE8 c))/\w=w':=by
 go_enter func186,ntmps186;go_wp2
 all_goals (go_ret;refine ⟨aA2 ?_,rfl⟩;unfold aE8;rw [Bool.eq_iff_iff];simp) <;> omega
theorem aXj (c:UInt8) (w:World):Calls prog 196 #[.int .u8 (c.toNat:Int)] w fun e w'=>e = .returned (.bool (aK5 c))/\w=w':=by
 go_enter func196,ntmps196;go_wp2
 all_goals (go_ret;refine ⟨aA2 ?_,rfl⟩;unfold aK5;rw [Bool.eq_iff_iff];simp) <;> omega
theorem aSb (c:UInt8) (w:World):Calls prog 210 #[.int .u8 (c.toNat:Int)] w fun e w'=>e = .returned (.bool (aK5 c))/\w=w':=by
 go_enter func210,ntmps210;go_wp2
 all_goals (go_ret;refine ⟨aA2 ?_,rfl⟩;unfold aK5;rw [Bool.eq_iff_iff];simp) <;> omega
theorem aP7 (c:UInt8) (w:World):Calls prog 173 #[.int .u8 (c.toNat:Int)] w fun e w'=>e = .returned (.bool (aBv c))/\w=w':=by
 cases h1:aE8 c <;> cases h2:aK5 c
 all_goals
  have HF:=aA0 (show aBv c=(aE8 c||aK5 c||decide ((c.toNat:Int)=95)) from rfl)
  rw [h1,h2] at HF;go_enter func173,ntmps173
  go_wp2_with (first
   | (go_at_call 172;refine (aLa _ _).mono ?_;rintro e w' ⟨rfl,rfl⟩)
   | (go_at_call 196;refine (aXj _ _).mono ?_;rintro e w' ⟨rfl,rfl⟩))
  all_goals (go_ret;refine ⟨aA2 ?_,rfl⟩;rw [HF.out];simp;try (rw [Bool.eq_iff_iff];simp))
theorem aLz (c:UInt8) (w:World):Calls prog 187 #[.int .u8 (c.toNat:Int)] w fun e w'=>e = .returned (.bool (aBv c))/\w=w':=by
 cases h1:aE8 c <;> cases h2:aK5 c
 all_goals
  have HF:=aA0 (show aBv c=(aE8 c||aK5 c||decide ((c.toNat:Int)=95)) from rfl)
  rw [h1,h2] at HF;go_enter func187,ntmps187
  go_wp2_with (first
   | (go_at_call 186;refine (aHc _ _).mono ?_;rintro e w' ⟨rfl,rfl⟩)
   | (go_at_call 210;refine (aSb _ _).mono ?_;rintro e w' ⟨rfl,rfl⟩))
  all_goals (go_ret;refine ⟨aA2 ?_,rfl⟩;rw [HF.out];simp;try (rw [Bool.eq_iff_iff];simp))
def wordsL:List (List UInt8):=[[112,114,111,103,114,97,109],[118,97,114],[114,117,108,101],[98,111,111,108],[112,111,114,116],[116,114,117,101],[102,97,108,115,101],[110,111,110,101],[110],[105,100,115],[105,100],[100,101,103],[114,111,111,116],[113],[119,101,105,103,104,116],[98,97,99,107],[97,108,108],[115,111,109,101],[99,111,117,110,116],[102,105,114,115,116],[109,105,110],[109,97,120],[115,117,109],[109,101,120],[115,101,99,111,110,100],[104,101,97,100]]
def aDe (s:ByteArray):Bool:=wordsL.any fun l=>s.toList==l
theorem aSn (s:ByteArray) (w:World):Calls prog 174 #[.string s] w fun e w'=>e = .returned (.bool (aDe s))/\w=w':=by
 have HR:Hid (aDe s=((s.toList==[112,114,111,103,114,97,109])||((s.toList==[118,97,114])||((s.toList==[114,117,108,101])||((s.toList==[98,111,111,108])||((s.toList==[112,111,114,116])||((s.toList==[116,114,117,101])||((s.toList==[102,97,108,115,101])||((s.toList==[110,111,110,101])||((s.toList==[110])||((s.toList==[105,100,115])||((s.toList==[105,100])||((s.toList==[100,101,103])||((s.toList==[114,111,111,116])||((s.toList==[113])||((s.toList==[119,101,105,103,104,116])||((s.toList==[98,97,99,107])||((s.toList==[97,108,108])||((s.toList==[115,111,109,101])||((s.toList==[99,111,117,110,116])||((s.toList==[102,105,114,115,116])||((s.toList==[109,105,110])||((s.toList==[109,97,120])||((s.toList==[115,117,109])||((s.toList==[109,101,120])||((s.toList==[115,101,99,111,110,100])||((s.toList==[104,101,97,100])))))))))))))))))))))))))))):=by
  show aDe s=_
  simp only [aDe,wordsL,List.any_cons,List.any_nil,Bool.or_false]
 obtain ⟨b0,h0⟩:∃ b,(s.toList==[112,114,111,103,114,97,109])=b:=⟨_,rfl⟩;obtain ⟨b1,h1⟩:∃ b,(s.toList==[118,97,114])=b:=⟨_,rfl⟩;obtain ⟨b2,h2⟩:∃ b,(s.toList==[114,117,108,101])=b:=⟨_,rfl⟩;obtain ⟨b3,h3⟩:∃ b,(s.toList==[98,111,111,108])=b:=⟨_,rfl⟩;obtain ⟨b4,h4⟩:∃ b,(s.toList==[112,111,114,116])=b:=⟨_,rfl⟩;obtain ⟨b5,h5⟩:∃ b,(s.toList==[116,114,117,101])=b:=⟨_,rfl⟩;obtain ⟨b6,h6⟩:∃ b,(s.toList==[102,97,108,115,101])=b:=⟨_,rfl⟩;obtain ⟨b7,h7⟩:∃ b,(s.toList==[110,111,110,101])=b:=⟨_,rfl⟩;obtain ⟨b8,h8⟩:∃ b,(s.toList==[110])=b:=⟨_,rfl⟩;obtain ⟨b9,h9⟩:∃ b,(s.toList==[105,100,115])=b:=⟨_,rfl⟩;obtain ⟨b10,h10⟩:∃ b,(s.toList==[105,100])=b:=⟨_,rfl⟩;obtain ⟨b11,h11⟩:∃ b,(s.toList==[100,101,103])=b:=⟨_,rfl⟩;obtain ⟨b12,h12⟩:∃ b,(s.toList==[114,111,111,116])=b:=⟨_,rfl⟩;obtain ⟨b13,h13⟩:∃ b,(s.toList==[113])=b:=⟨_,rfl⟩;obtain ⟨b14,h14⟩:∃ b,(s.toList==[119,101,105,103,104,116])=b:=⟨_,rfl⟩;obtain ⟨b15,h15⟩:∃ b,(s.toList==[98,97,99,107])=b:=⟨_,rfl⟩;obtain ⟨b16,h16⟩:∃ b,(s.toList==[97,108,108])=b:=⟨_,rfl⟩;obtain ⟨b17,h17⟩:∃ b,(s.toList==[115,111,109,101])=b:=⟨_,rfl⟩;obtain ⟨b18,h18⟩:∃ b,(s.toList==[99,111,117,110,116])=b:=⟨_,rfl⟩;obtain ⟨b19,h19⟩:∃ b,(s.toList==[102,105,114,115,116])=b:=⟨_,rfl⟩;obtain ⟨b20,h20⟩:∃ b,(s.toList==[109,105,110])=b:=⟨_,rfl⟩;obtain ⟨b21,h21⟩:∃ b,(s.toList==[109,97,120])=b:=⟨_,rfl⟩;obtain ⟨b22,h22⟩:∃ b,(s.toList==[115,117,109])=b:=⟨_,rfl⟩;obtain ⟨b23,h23⟩:∃ b,(s.toList==[109,101,120])=b:=⟨_,rfl⟩;obtain ⟨b24,h24⟩:∃ b,(s.toList==[115,101,99,111,110,100])=b:=⟨_,rfl⟩;obtain ⟨b25,h25⟩:∃ b,(s.toList==[104,101,97,100])=b:=⟨_,rfl⟩;rw [h0,h1,h2,h3,h4,h5,h6,h7,h8,h9,h10,h11,h12,h13,h14,h15,h16,h17,h18,h19,h20,h21,h22,h23,h24,h25] at HR;go_enter func174,ntmps174;cases b0 with
 | true =>
  go_wp2;go_ret;exact ⟨aA2 (by rw [HR.out];simp),rfl⟩
 | false =>
 cases b1 with
 | true =>
  go_wp2;go_ret;exact ⟨aA2 (by rw [HR.out];simp),rfl⟩
 | false =>
 cases b2 with
 | true =>
  go_wp2;go_ret;exact ⟨aA2 (by rw [HR.out];simp),rfl⟩
 | false =>
 cases b3 with
 | true =>
  go_wp2;go_ret;exact ⟨aA2 (by rw [HR.out];simp),rfl⟩
 | false =>
 cases b4 with
 | true =>
  go_wp2;go_ret;exact ⟨aA2 (by rw [HR.out];simp),rfl⟩
 | false =>
 cases b5 with
 | true =>
  go_wp2;go_ret;exact ⟨aA2 (by rw [HR.out];simp),rfl⟩
 | false =>
 cases b6 with
 | true =>
  go_wp2;go_ret;exact ⟨aA2 (by rw [HR.out];simp),rfl⟩
 | false =>
 cases b7 with
 | true =>
  go_wp2;go_ret;exact ⟨aA2 (by rw [HR.out];simp),rfl⟩
 | false =>
 cases b8 with
 | true =>
  go_wp2;go_ret;exact ⟨aA2 (by rw [HR.out];simp),rfl⟩
 | false =>
 cases b9 with
 | true =>
  go_wp2;go_ret;exact ⟨aA2 (by rw [HR.out];simp),rfl⟩
 | false =>
 cases b10 with
 | true =>
  go_wp2;go_ret;exact ⟨aA2 (by rw [HR.out];simp),rfl⟩
 | false =>
 cases b11 with
 | true =>
  go_wp2;go_ret;exact ⟨aA2 (by rw [HR.out];simp),rfl⟩
 | false =>
 cases b12 with
 | true =>
  go_wp2;go_ret;exact ⟨aA2 (by rw [HR.out];simp),rfl⟩
 | false =>
 cases b13 with
 | true =>
  go_wp2;go_ret;exact ⟨aA2 (by rw [HR.out];simp),rfl⟩
 | false =>
 cases b14 with
 | true =>
  go_wp2;go_ret;exact ⟨aA2 (by rw [HR.out];simp),rfl⟩
 | false =>
 cases b15 with
 | true =>
  go_wp2;go_ret;exact ⟨aA2 (by rw [HR.out];simp),rfl⟩
 | false =>
 cases b16 with
 | true =>
  go_wp2;go_ret;exact ⟨aA2 (by rw [HR.out];simp),rfl⟩
 | false =>
 cases b17 with
 | true =>
  go_wp2;go_ret;exact ⟨aA2 (by rw [HR.out];simp),rfl⟩
 | false =>
 cases b18 with
 | true =>
  go_wp2;go_ret;exact ⟨aA2 (by rw [HR.out];simp),rfl⟩
 | false =>
 cases b19 with
 | true =>
  go_wp2;go_ret;exact ⟨aA2 (by rw [HR.out];simp),rfl⟩
 | false =>
 cases b20 with
 | true =>
  go_wp2;go_ret;exact ⟨aA2 (by rw [HR.out];simp),rfl⟩
 | false =>
 cases b21 with
 | true =>
  go_wp2;go_ret;exact ⟨aA2 (by rw [HR.out];simp),rfl⟩
 | false =>
 cases b22 with
 | true =>
  go_wp2;go_ret;exact ⟨aA2 (by rw [HR.out];simp),rfl⟩
 | false =>
 cases b23 with
 | true =>
  go_wp2;go_ret;exact ⟨aA2 (by rw [HR.out];simp),rfl⟩
 | false =>
 cases b24 with
 | true =>
  go_wp2;go_ret;exact ⟨aA2 (by rw [HR.out];simp),rfl⟩
 | false =>
 cases b25 with
 | true =>
  go_wp2;go_ret;exact ⟨aA2 (by rw [HR.out];simp),rfl⟩
 | false =>
 go_wp2;go_ret;exact ⟨aA2 (by rw [HR.out];rfl),rfl⟩
theorem aOc (s:ByteArray) (w:World):Calls prog 188 #[.string s] w fun e w'=>e = .returned (.bool (aDe s))/\w=w':=by
 have HR:Hid (aDe s=((s.toList==[112,114,111,103,114,97,109])||((s.toList==[118,97,114])||((s.toList==[114,117,108,101])||((s.toList==[98,111,111,108])||((s.toList==[112,111,114,116])||((s.toList==[116,114,117,101])||((s.toList==[102,97,108,115,101])||((s.toList==[110,111,110,101])||((s.toList==[110])||((s.toList==[105,100,115])||((s.toList==[105,100])||((s.toList==[100,101,103])||((s.toList==[114,111,111,116])||((s.toList==[113])||((s.toList==[119,101,105,103,104,116])||((s.toList==[98,97,99,107])||((s.toList==[97,108,108])||((s.toList==[115,111,109,101])||((s.toList==[99,111,117,110,116])||((s.toList==[102,105,114,115,116])||((s.toList==[109,105,110])||((s.toList==[109,97,120])||((s.toList==[115,117,109])||((s.toList==[109,101,120])||((s.toList==[115,101,99,111,110,100])||((s.toList==[104,101,97,100])))))))))))))))))))))))))))):=by
  show aDe s=_
  simp only [aDe,wordsL,List.any_cons,List.any_nil,Bool.or_false]
 obtain ⟨b0,h0⟩:∃ b,(s.toList==[112,114,111,103,114,97,109])=b:=⟨_,rfl⟩;obtain ⟨b1,h1⟩:∃ b,(s.toList==[118,97,114])=b:=⟨_,rfl⟩;obtain ⟨b2,h2⟩:∃ b,(s.toList==[114,117,108,101])=b:=⟨_,rfl⟩;obtain ⟨b3,h3⟩:∃ b,(s.toList==[98,111,111,108])=b:=⟨_,rfl⟩;obtain ⟨b4,h4⟩:∃ b,(s.toList==[112,111,114,116])=b:=⟨_,rfl⟩;obtain ⟨b5,h5⟩:∃ b,(s.toList==[116,114,117,101])=b:=⟨_,rfl⟩;obtain ⟨b6,h6⟩:∃ b,(s.toList==[102,97,108,115,101])=b:=⟨_,rfl⟩;obtain ⟨b7,h7⟩:∃ b,(s.toList==[110,111,110,101])=b:=⟨_,rfl⟩;obtain ⟨b8,h8⟩:∃ b,(s.toList==[110])=b:=⟨_,rfl⟩;obtain ⟨b9,h9⟩:∃ b,(s.toList==[105,100,115])=b:=⟨_,rfl⟩;obtain ⟨b10,h10⟩:∃ b,(s.toList==[105,100])=b:=⟨_,rfl⟩;obtain ⟨b11,h11⟩:∃ b,(s.toList==[100,101,103])=b:=⟨_,rfl⟩;obtain ⟨b12,h12⟩:∃ b,(s.toList==[114,111,111,116])=b:=⟨_,rfl⟩;obtain ⟨b13,h13⟩:∃ b,(s.toList==[113])=b:=⟨_,rfl⟩;obtain ⟨b14,h14⟩:∃ b,(s.toList==[119,101,105,103,104,116])=b:=⟨_,rfl⟩;obtain ⟨b15,h15⟩:∃ b,(s.toList==[98,97,99,107])=b:=⟨_,rfl⟩;obtain ⟨b16,h16⟩:∃ b,(s.toList==[97,108,108])=b:=⟨_,rfl⟩;obtain ⟨b17,h17⟩:∃ b,(s.toList==[115,111,109,101])=b:=⟨_,rfl⟩;obtain ⟨b18,h18⟩:∃ b,(s.toList==[99,111,117,110,116])=b:=⟨_,rfl⟩;obtain ⟨b19,h19⟩:∃ b,(s.toList==[102,105,114,115,116])=b:=⟨_,rfl⟩;obtain ⟨b20,h20⟩:∃ b,(s.toList==[109,105,110])=b:=⟨_,rfl⟩;obtain ⟨b21,h21⟩:∃ b,(s.toList==[109,97,120])=b:=⟨_,rfl⟩;obtain ⟨b22,h22⟩:∃ b,(s.toList==[115,117,109])=b:=⟨_,rfl⟩;obtain ⟨b23,h23⟩:∃ b,(s.toList==[109,101,120])=b:=⟨_,rfl⟩;obtain ⟨b24,h24⟩:∃ b,(s.toList==[115,101,99,111,110,100])=b:=⟨_,rfl⟩;obtain ⟨b25,h25⟩:∃ b,(s.toList==[104,101,97,100])=b:=⟨_,rfl⟩;rw [h0,h1,h2,h3,h4,h5,h6,h7,h8,h9,h10,h11,h12,h13,h14,h15,h16,h17,h18,h19,h20,h21,h22,h23,h24,h25] at HR;go_enter func188,ntmps188;cases b0 with
 | true =>
  go_wp2;go_ret;exact ⟨aA2 (by rw [HR.out];simp),rfl⟩
 | false =>
 cases b1 with
 | true =>
  go_wp2;go_ret;exact ⟨aA2 (by rw [HR.out];simp),rfl⟩
 | false =>
 cases b2 with
 | true =>
  go_wp2;go_ret;exact ⟨aA2 (by rw [HR.out];simp),rfl⟩
 | false =>
 cases b3 with
 | true =>
  go_wp2;go_ret;exact ⟨aA2 (by rw [HR.out];simp),rfl⟩
 | false =>
 cases b4 with
 | true =>
  go_wp2;go_ret;exact ⟨aA2 (by rw [HR.out];simp),rfl⟩
 | false =>
 cases b5 with
 | true =>
  go_wp2;go_ret;exact ⟨aA2 (by rw [HR.out];simp),rfl⟩
 | false =>
 cases b6 with
 | true =>
  go_wp2;go_ret;exact ⟨aA2 (by rw [HR.out];simp),rfl⟩
 | false =>
 cases b7 with
 | true =>
  go_wp2;go_ret;exact ⟨aA2 (by rw [HR.out];simp),rfl⟩
 | false =>
 cases b8 with
 | true =>
  go_wp2;go_ret;exact ⟨aA2 (by rw [HR.out];simp),rfl⟩
 | false =>
 cases b9 with
 | true =>
  go_wp2;go_ret;exact ⟨aA2 (by rw [HR.out];simp),rfl⟩
 | false =>
 cases b10 with
 | true =>
  go_wp2;go_ret;exact ⟨aA2 (by rw [HR.out];simp),rfl⟩
 | false =>
 cases b11 with
 | true =>
  go_wp2;go_ret;exact ⟨aA2 (by rw [HR.out];simp),rfl⟩
 | false =>
 cases b12 with
 | true =>
  go_wp2;go_ret;exact ⟨aA2 (by rw [HR.out];simp),rfl⟩
 | false =>
 cases b13 with
 | true =>
  go_wp2;go_ret;exact ⟨aA2 (by rw [HR.out];simp),rfl⟩
 | false =>
 cases b14 with
 | true =>
  go_wp2;go_ret;exact ⟨aA2 (by rw [HR.out];simp),rfl⟩
 | false =>
 cases b15 with
 | true =>
  go_wp2;go_ret;exact ⟨aA2 (by rw [HR.out];simp),rfl⟩
 | false =>
 cases b16 with
 | true =>
  go_wp2;go_ret;exact ⟨aA2 (by rw [HR.out];simp),rfl⟩
 | false =>
 cases b17 with
 | true =>
  go_wp2;go_ret;exact ⟨aA2 (by rw [HR.out];simp),rfl⟩
 | false =>
 cases b18 with
 | true =>
  go_wp2;go_ret;exact ⟨aA2 (by rw [HR.out];simp),rfl⟩
 | false =>
 cases b19 with
 | true =>
  go_wp2;go_ret;exact ⟨aA2 (by rw [HR.out];simp),rfl⟩
 | false =>
 cases b20 with
 | true =>
  go_wp2;go_ret;exact ⟨aA2 (by rw [HR.out];simp),rfl⟩
 | false =>
 cases b21 with
 | true =>
  go_wp2;go_ret;exact ⟨aA2 (by rw [HR.out];simp),rfl⟩
 | false =>
 cases b22 with
 | true =>
  go_wp2;go_ret;exact ⟨aA2 (by rw [HR.out];simp),rfl⟩
 | false =>
 cases b23 with
 | true =>
  go_wp2;go_ret;exact ⟨aA2 (by rw [HR.out];simp),rfl⟩
 | false =>
 cases b24 with
 | true =>
  go_wp2;go_ret;exact ⟨aA2 (by rw [HR.out];simp),rfl⟩
 | false =>
 cases b25 with
 | true =>
  go_wp2;go_ret;exact ⟨aA2 (by rw [HR.out];simp),rfl⟩
 | false =>
 go_wp2;go_ret;exact ⟨aA2 (by rw [HR.out];rfl),rfl⟩
def aEo (s:ByteArray):Bool:=decide (1<=s.size/\s.size<=24)&&aE8 (s.data.toList.headD 0)&&s.data.toList.all aBv && !aDe s
theorem aXp (s:ByteArray) (h:0<s.size):s.data.toList.headD 0=s[0]:=by
 have h':0<s.data.toList.length:=by simpa using h
 show s.data.toList.headD 0=s.data.toList[0]
 match hl:s.data.toList,h' with
 | x :: l,_=>rfl
theorem aG9 (s:ByteArray) (w:World) (hs:s.size<=1000000):Calls prog 158 #[.string s] w fun e w'=>e = .returned (.bool (aEo s))/\w=w':=by
 by_cases hn:1<=s.size/\s.size<=24
 .obtain ⟨hn1,hn2⟩:=hn
  have h0:0<s.size:=by omega
  have HF:Hid (aEo s=(aE8 s[0]&&s.data.toList.all aBv && !aDe s)):=by
   show aEo s=_
   unfold aEo;rw [aXp s h0,show decide (1<=s.size/\s.size<=24)=true by simp;omega];simp
  cases hl:aE8 s[0] with
  | false =>
   rw [hl] at HF;go_enter func158,ntmps158
   go_wp2_with (go_at_call 172;refine (aLa s[0] _).mono ?_;rintro e w' ⟨rfl,rfl⟩)
   go_ret;exact ⟨aA2 (by rw [HF.out];rfl),rfl⟩
  | true =>
   rw [hl] at HF;go_enter func158,ntmps158
   go_wp2_with (go_at_call 172;refine (aLa s[0] _).mono ?_;rintro e w' ⟨rfl,rfl⟩)
   go_loopg [3,20] s.size (fun m _x z wr=>∃ j:Nat,j<=s.size/\m=s.size-j/\Hid ((s.data.toList.take j).all aBv=true)/\z = .int .i64 j/\w=wr)
   case atStart=>exact ⟨0,by omega,rfl,rfl,rfl,rfl⟩
   case round =>
    obtain ⟨j,hj,rfl,HK,rfl,rfl⟩:=hrel
    by_cases hlt:j<s.size
    .have hd0:decide (j<s.size)=true:=by simpa using hlt
     cases hw:aBv s[j] with
     | false =>
      have HG:=aA0 (aAq (f:=aBv) (l:=s.data.toList) (by simpa using hlt) (show aBv (s.data.toList[j]'(by simpa using hlt))=false from hw))
      go_wp2_with (go_at_call 173;refine (aP7 s[j] _).mono ?_;rintro e w' ⟨rfl,rfl⟩)
      go_ret;exact ⟨aA2 (by rw [HF.out,HG.out];rfl),rfl⟩
     | true =>
      have HG:=aA0 (aAb (f:=aBv) (l:=s.data.toList) (by simpa using hlt) HK.out (show aBv (s.data.toList[j]'(by simpa using hlt))=true from hw))
      go_wp2_with (go_at_call 173;refine (aP7 s[j] _).mono ?_;rintro e w' ⟨rfl,rfl⟩)
      go_roundg (s.size-(j+1))
      case rel=>exact ⟨j+1,by omega,rfl,HG,by go_num,rfl⟩
      case measure=>omega
    .have hd0:decide (j<s.size)=false:=by simpa using hlt
     have HG:=aA0 (aAr (f:=aBv) (l:=s.data.toList) (by simp;omega) HK.out)
     rw [HG.out] at HF
     go_wp2_with (go_at_call 174;refine (aSn s _).mono ?_;rintro e w' ⟨rfl,rfl⟩)
     all_goals (go_ret;exact ⟨aA2 (by rw [HF.out];simp),rfl⟩)
 .have HF:Hid (aEo s=false):=by
   show aEo s=false
   unfold aEo;rw [show decide (1<=s.size/\s.size<=24)=false by simpa using hn];rfl
  rcases (show s.size=0∨24<s.size by omega) with h | h
  .have h':s.size<1:=by omega
   clear hn h;go_enter func158,ntmps158;go_wp2;go_ret;exact ⟨aA2 HF.out.symm,rfl⟩
  .have h':1<=s.size:=by omega
   clear hn;go_enter func158,ntmps158;go_wp2;go_ret;exact ⟨aA2 HF.out.symm,rfl⟩
theorem aEr (s:ByteArray) (w:World) (hs:s.size<=1000000):Calls prog 167 #[.string s] w fun e w'=>e = .returned (.bool (aEo s))/\w=w':=by
 by_cases hn:1<=s.size/\s.size<=24
 .obtain ⟨hn1,hn2⟩:=hn
  have h0:0<s.size:=by omega
  have HF:Hid (aEo s=(aE8 s[0]&&s.data.toList.all aBv && !aDe s)):=by
   show aEo s=_
   unfold aEo;rw [aXp s h0,show decide (1<=s.size/\s.size<=24)=true by simp;omega];simp
  cases hl:aE8 s[0] with
  | false =>
   rw [hl] at HF;go_enter func167,ntmps167
   go_wp2_with (go_at_call 186;refine (aHc s[0] _).mono ?_;rintro e w' ⟨rfl,rfl⟩)
   go_ret;exact ⟨aA2 (by rw [HF.out];rfl),rfl⟩
  | true =>
   rw [hl] at HF
   have HS:Hid ((s.data.toList.take 1).all aBv=true):=by
    have:=aAb (f:=aBv) (l:=s.data.toList) (k:=0) (by simpa using h0) rfl (by show aBv s[0]=true;unfold aBv;rw [hl];rfl)
    exact this
   go_enter func167,ntmps167
   go_wp2_with (go_at_call 186;refine (aHc s[0] _).mono ?_;rintro e w' ⟨rfl,rfl⟩)
   go_loopg [3] (s.size-1) (fun m z wr=>∃ j:Nat,j<=s.size/\m=s.size-j/\Hid ((s.data.toList.take j).all aBv=true)/\z = .int .i64 j/\w=wr)
   case atStart=>exact ⟨1,by omega,rfl,HS,rfl,rfl⟩
   case round =>
    obtain ⟨j,hj,rfl,HK,rfl,rfl⟩:=hrel
    by_cases hlt:j<s.size
    .have hd0:decide (j<s.size)=true:=by simpa using hlt
     cases hw:aBv s[j] with
     | false =>
      have HG:=aA0 (aAq (f:=aBv) (l:=s.data.toList) (by simpa using hlt) (show aBv (s.data.toList[j]'(by simpa using hlt))=false from hw))
      go_wp2_with (go_at_call 187;refine (aLz s[j] _).mono ?_;rintro e w' ⟨rfl,rfl⟩)
      go_ret;exact ⟨aA2 (by rw [HF.out,HG.out];rfl),rfl⟩
     | true =>
      have HG:=aA0 (aAb (f:=aBv) (l:=s.data.toList) (by simpa using hlt) HK.out (show aBv (s.data.toList[j]'(by simpa using hlt))=true from hw))
      go_wp2_with (go_at_call 187;refine (aLz s[j] _).mono ?_;rintro e w' ⟨rfl,rfl⟩)
      go_roundg (s.size-(j+1))
      case rel=>exact ⟨j+1,by omega,rfl,HG,by go_num,rfl⟩
      case measure=>omega
    .have hd0:decide (j<s.size)=false:=by simpa using hlt
     have HG:=aA0 (aAr (f:=aBv) (l:=s.data.toList) (by simp;omega) HK.out)
     rw [HG.out] at HF
     go_wp2_with (go_at_call 188;refine (aOc s _).mono ?_;rintro e w' ⟨rfl,rfl⟩)
     all_goals (go_ret;exact ⟨aA2 (by rw [HF.out];simp),rfl⟩)
 .have HF:Hid (aEo s=false):=by
   show aEo s=false
   unfold aEo;rw [show decide (1<=s.size/\s.size<=24)=false by simpa using hn];rfl
  rcases (show s.size=0∨24<s.size by omega) with h | h
  .have h':s.size<1:=by omega
   clear hn h;go_enter func167,ntmps167;go_wp2;go_ret;exact ⟨aA2 HF.out.symm,rfl⟩
  .have h':1<=s.size:=by omega
   clear hn;go_enter func167,ntmps167;go_wp2;go_ret;exact ⟨aA2 HF.out.symm,rfl⟩
end Go.Proofs.YtdcjnhoabbdanaaGreatDoor

