/-
  strings.Repeat stands in the seat's shelf; this text only hands it on.
-/
import Derived.Test.YtfhkmmicdbblnaaShelf

