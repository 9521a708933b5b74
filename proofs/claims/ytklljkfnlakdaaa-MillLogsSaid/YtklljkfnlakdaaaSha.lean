/- SHA-256 on natural numbers and lists of bytes. No program in sight, no condition. -/
import Derived.Test.YtklljkfnlakdaaaPure
set_option linter.unusedVariables false
set_option linter.unusedSimpArgs false
set_option linter.unnecessarySimpa false
namespace Go.Proofs.Ytklljkfnlakdaaa

/-- A word turned to the right. -/
def rotr (x n : Nat) : Nat := x / 2 ^ n + x % 2 ^ n * 2 ^ (32 - n)
def threeM (x a b c : Nat) (falls : Bool) : Nat := rotr x a ^^^ rotr x b ^^^ (if falls then x / 2 ^ c else rotr x c)
def pickM (e f g : Nat) : Nat := g ^^^ (e &&& (f ^^^ g))
def mostM (a b c : Nat) : Nat := (a &&& b) ||| (c &&& (a ||| b))

def firstK : List Nat := [1779033703, 3144134277, 1013904242, 2773480762, 1359893119, 2600822924, 528734635, 1541459225]
def stirK : List Nat := [
  1116352408, 1899447441, 3049323471, 3921009573, 961987163, 1508970993, 2453635748, 2870763221,
  3624381080, 310598401, 607225278, 1426881987, 1925078388, 2162078206, 2614888103, 3248222580,
  3835390401, 4022224774, 264347078, 604807628, 770255983, 1249150122, 1555081692, 1996064986,
  2554220882, 2821834349, 2952996808, 3210313671, 3336571891, 3584528711, 113926993, 338241895,
  666307205, 773529912, 1294757372, 1396182291, 1695183700, 1986661051, 2177026350, 2456956037,
  2730485921, 2820302411, 3259730800, 3345764771, 3516065817, 3600352804, 4094571909, 275423344,
  430227734, 506948616, 659060556, 883997877, 958139571, 1322822218, 1537002063, 1747873779,
  1955562222, 2024104815, 2227730452, 2361852424, 2428436474, 2756734187, 3204031479, 3329325298]

/-- One word more. -/
def wordMix (a b c d : Nat) : Nat := (a + threeM b 7 18 3 true + c + threeM d 17 19 10 true) % 4294967296
def wordNext (w : List Nat) (i : Nat) : Nat := wordMix (w.getD i 0) (w.getD (i + 1) 0) (w.getD (i + 9) 0) (w.getD (i + 14) 0)
/-- The first 16 + n words. -/
def sched (b : List Nat) : Nat → List Nat
  | 0 => b
  | n + 1 => sched b n ++ [wordNext (sched b n) n]
def roundM (s : List Nat) (k w : Nat) : List Nat :=
  match s with
  | [a, b, c, d, e, f, g, h] => [(h + threeM e 6 11 25 false + pickM e f g + k + w + threeM a 2 13 22 false + mostM a b c) % 4294967296, a, b, c, (d + (h + threeM e 6 11 25 false + pickM e f g + k + w)) % 4294967296, e, f, g]
  | _ => s
/-- The words behind the first n rounds. -/
def rounds (s : List Nat) (w : List Nat) : Nat → List Nat
  | 0 => s
  | n + 1 => roundM (rounds s w n) (stirK.getD n 0) (w.getD n 0)
def words (b : List UInt8) (n : Nat) : List Nat := (List.range n).map fun i => beNum ((b.drop (4 * i)).take 4)
def block (s : List Nat) (b : List UInt8) : List Nat := List.zipWith (fun x y => (x + y) % 4294967296) s (rounds s (sched (words b 16) 48) 64)
/-- The words behind the first n blocks. -/
def blocks (b : List UInt8) : Nat → List Nat
  | 0 => firstK
  | n + 1 => block (blocks b n) ((b.drop (64 * n)).take 64)
/-- What fills up the last block but for the length. -/
def fill (n : Nat) : List UInt8 := 128 :: List.replicate (63 - (n + 8) % 64) 0
def padded (b : List UInt8) : List UInt8 := b ++ fill b.length ++ be 8 (b.length * 8)
def sha (b : List UInt8) : List UInt8 := (blocks (padded b) ((padded b).length / 64)).flatMap (be 4)
end Go.Proofs.Ytklljkfnlakdaaa
