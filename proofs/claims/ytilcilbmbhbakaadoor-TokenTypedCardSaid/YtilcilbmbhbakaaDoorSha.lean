/- SHA-256 in plain Lean. -/
import Derived.Test.YtilcilbmbhbakaaDoorTurn
namespace Go.Proofs.YtilcilbmbhbakaaDoor
open Go.RowKit
namespace Sha
abbrev W := BitVec 32
def sig0 (x : W) : W := rotr x 7 ^^^ rotr x 18 ^^^ x >>> 3
def sig1 (x : W) : W := rotr x 17 ^^^ rotr x 19 ^^^ x >>> 10
def wd (l : List UInt8) : W := l.foldl (fun w c => w <<< 8 ||| c.toBitVec.setWidth 32) 0
def wds (b : List UInt8) (n : Nat) : List W := (List.range n).map fun t => wd ((b.drop (4 * t)).take 4)
def next (ws : List W) : W := ws.getD (ws.length - 16) 0 + sig0 (ws.getD (ws.length - 15) 0) + ws.getD (ws.length - 7) 0 + sig1 (ws.getD (ws.length - 2) 0)
def ext (ws : List W) : Nat → List W
  | 0 => ws
  | n + 1 => ext ws n ++ [next (ext ws n)]
def sched (b : List UInt8) : List W := ext (wds b 16) 48
theorem wds_length (b : List UInt8) (n : Nat) : (wds b n).length = n := by simp [wds]
theorem wds_succ (b : List UInt8) (n : Nat) : wds b (n + 1) = wds b n ++ [wd ((b.drop (4 * n)).take 4)] := by simp [wds, List.range_succ]
theorem ext_length (ws : List W) (n : Nat) : (ext ws n).length = ws.length + n := by
  induction n with
  | zero => rfl
  | succ n ih => simp [ext, ih]; omega
theorem sched_length (b : List UInt8) : (sched b).length = 64 := by simp [sched, ext_length, wds_length]
def pad64 (ws : List W) : List W := ws ++ List.replicate (64 - ws.length) 0
def cells (ws : List W) : Array Value := (ws.map V32).toArray
def bytes (l : List UInt8) : Array Value := (l.map V8).toArray
theorem wd_snoc (l : List UInt8) (c : UInt8) : wd (l ++ [c]) = wd l <<< 8 ||| c.toBitVec.setWidth 32 := by simp [wd]
structure S8 where
  a : W
  b : W
  c : W
  d : W
  e : W
  f : W
  g : W
  h : W
def S8.list (s : S8) : List W := [s.a, s.b, s.c, s.d, s.e, s.f, s.g, s.h]
def K : List W := [0x428a2f98#32, 0x71374491#32, 0xb5c0fbcf#32, 0xe9b5dba5#32, 0x3956c25b#32, 0x59f111f1#32, 0x923f82a4#32, 0xab1c5ed5#32, 0xd807aa98#32, 0x12835b01#32, 0x243185be#32, 0x550c7dc3#32, 0x72be5d74#32, 0x80deb1fe#32, 0x9bdc06a7#32, 0xc19bf174#32, 0xe49b69c1#32, 0xefbe4786#32, 0x0fc19dc6#32, 0x240ca1cc#32, 0x2de92c6f#32, 0x4a7484aa#32, 0x5cb0a9dc#32, 0x76f988da#32, 0x983e5152#32, 0xa831c66d#32, 0xb00327c8#32, 0xbf597fc7#32, 0xc6e00bf3#32, 0xd5a79147#32, 0x06ca6351#32, 0x14292967#32, 0x27b70a85#32, 0x2e1b2138#32, 0x4d2c6dfc#32, 0x53380d13#32, 0x650a7354#32, 0x766a0abb#32, 0x81c2c92e#32, 0x92722c85#32, 0xa2bfe8a1#32, 0xa81a664b#32, 0xc24b8b70#32, 0xc76c51a3#32, 0xd192e819#32, 0xd6990624#32, 0xf40e3585#32, 0x106aa070#32, 0x19a4c116#32, 0x1e376c08#32, 0x2748774c#32, 0x34b0bcb5#32, 0x391c0cb3#32, 0x4ed8aa4a#32, 0x5b9cca4f#32, 0x682e6ff3#32, 0x748f82ee#32, 0x78a5636f#32, 0x84c87814#32, 0x8cc70208#32, 0x90befffa#32, 0xa4506ceb#32, 0xbef9a3f7#32, 0xc67178f2#32]
def H0 : S8 := ⟨0x6a09e667#32, 0xbb67ae85#32, 0x3c6ef372#32, 0xa54ff53a#32, 0x510e527f#32, 0x9b05688c#32, 0x1f83d9ab#32, 0x5be0cd19#32⟩
def one (v : S8) : W := rotr v.e 6 ^^^ rotr v.e 11 ^^^ rotr v.e 25
def choice (v : S8) : W := v.e &&& v.f ^^^ ~~~v.e &&& v.g
def two (v : S8) : W := rotr v.a 2 ^^^ rotr v.a 13 ^^^ rotr v.a 22
def most (v : S8) : W := v.a &&& v.b ^^^ v.a &&& v.c ^^^ v.b &&& v.c
def roundX (v : S8) (k w : W) : W := v.h + one v + choice v + k + w
def round (v : S8) (k w : W) : S8 := ⟨roundX v k w + two v + most v, v.a, v.b, v.c, v.d + roundX v k w, v.e, v.f, v.g⟩
def rounds (s : S8) (ws : List W) : Nat → S8
  | 0 => s
  | n + 1 => round (rounds s ws n) (K.getD n 0) (ws.getD n 0)
def S8.add (s t : S8) : S8 := ⟨s.a + t.a, s.b + t.b, s.c + t.c, s.d + t.d, s.e + t.e, s.f + t.f, s.g + t.g, s.h + t.h⟩
def compress (s : S8) (b : List UInt8) : S8 := s.add (rounds s (sched b) 64)
end Sha
end Go.Proofs.YtilcilbmbhbakaaDoor
